/- Regions: all operations of one, in any order that the model leaves open. -/
import Derived.Test.YtkhjemahenkdiaaGreatDoorVNB
namespace Go.Proofs.YtkhjemahenkdiaaGreatDoor.V
open Go Go.RowKit
set_option linter.unusedVariables false
set_option linter.unusedSimpArgs false
structure Hint where
  sb : Nat := 0
  own : Bool := true
  res : Option RV := none
  bv : Option Bool := none
  bo : Bool := false
  lk : Bool := false
  ph : PH := {}
  lu : Option Nat := none
def hlk : List (Nat × Hint) → Nat → Hint
  | [], _ => {}
  | (j, h) :: r, i => cond (Nat.beq j i) h (hlk r i)
def semC (tt : TT) (Γ : Nat → Option Spec) (pr : Nat → Option Prim) (nt hn : Nat) (h : Hint) (dst : Option Nat) (c : Call) : Rd :=
  match c.callee, c.args.toList, c.argTypes.toList with
  | .builtin .len, [x], [t] => semLenD tt nt dst t x
  | .builtin .min, [x, y], _ => semMin nt dst x y
  | .builtin .max, [x, y], _ => semMax nt dst x y
  | .builtin .append, [s, x], [t, t'] => cond h.lk (semAppL tt nt hn h.sb dst t t' s x) (semApp tt nt hn h.sb h.own dst t t' s x)
  | .builtin .copy, [d, s], [t, _] => semCopy tt nt dst t d s
  | .builtin .clear, [x], [t] => semClear tt nt dst t x
  | .value (.func f), _, _ => match pr f with
    | some p => semPrim nt hn h.ph dst p c.args.toList
    | none => match Γ f, h.res with
      | some s, some r => semCall nt hn h.sb dst s r c.args
      | _, _ => .fail
  | _, _, _ => .fail
def sem (tt : TT) (Γ : Nat → Option Spec) (pr : Nat → Option Prim) (nt hn : Nat) (h : Hint) (o : Oper) : Rd :=
  match o.op with
  | .move x => semMove nt o.dst x
  | .assign x => semMove nt o.dst x
  | .pick c x y => semPick nt o.dst c x y
  | .binOp op t x y _ => semBin tt nt o.dst op t x y
  | .unOp op _ x => semUn nt o.dst op x
  | .convert s d x => semConv tt nt o.dst s d x
  | .fieldAddr s x f => semFieldAddr tt nt o.dst s x f
  | .field s x f => semField tt nt o.dst s x f
  | .extract x j => semExtract nt o.dst x j
  | .makeFunc fn a b => semMakeFunc nt o.dst fn a b
  | .nilCheck x => semNilCheck nt o.dst x
  | .alloc t => semAlloc tt nt hn h.sb o.dst t
  | .box _ x => semBox nt hn h.sb o.dst x
  | .load t x => semLoad tt nt o.dst t x
  | .store t x v => semStore tt nt o.dst t x v
  | .indexAddr t x i => semIndexAddr tt nt o.dst t x i
  | .slice t x lo hi mx => semCut tt nt hn h.sb o.dst t x lo hi mx
  | .build t ps => semBuild tt nt o.dst t ps
  | .buildSlice t l ps => cond h.lk (semBuildLnk tt nt o.dst t l ps) (semBuildSlice tt nt hn h.sb h.bo o.dst t l ps)
  | .makeSlice t l c => semMake tt nt hn h.sb h.own o.dst t l c
  | .call c => semC tt Γ pr nt hn h o.dst c
  | .makeMap t r => semMakeD tt nt hn h.sb o.dst t r
  | .insert t m k v => semInsD tt nt o.dst t m k v
  | .mapUpdate t m k v => semInsD tt nt o.dst t m k v
  | .lookup t m k ok => semLookD tt nt h.lu o.dst t m k ok
  | _ => .fail
structure Env where
  tt : TT
  Γ : Nat → Option Spec
  pr : Nat → Option Prim := fun _ => none
structure EnvOk (P : Program) (V : Env) : Prop where
  ck : V.tt.ck P = true
  fits : ∀ f s, V.Γ f = some s → Fits P f s
  mixed : P.follows .mixedOrders = true
  prims : ∀ f p, V.pr f = some p → PrimOk P f p := by intro f p h; cases h
theorem arr1 {α : Type} {a : Array α} {x : α} (h : a.toList = [x]) : a = #[x] := by cases a; simp_all
theorem arr2 {α : Type} {a : Array α} {x y : α} (h : a.toList = [x, y]) : a = #[x, y] := by cases a; simp_all
section
variable {P : Program} {V : Env} {F0 : Nat → Prop} {w0 : World} {E : En} {σ : St} {a : Act} {w : World}
theorem ok_sem (hV : EnvOk P V) {hn : Nat} {h : Hint} {o : Oper} {Q : Exit → Act → World → Prop} {ws : List Wr} (hI : Inv F0 w0 E σ a w) (hhn : hn = σ.heap.length) (hg : (sem V.tt V.Γ V.pr σ.nt hn h o).gives σ ws) : Good P F0 w0 E o a w (σ.aps ws) Q := by
  subst hhn
  unfold sem at hg
  split at hg
  · rename_i ho; exact ok_move (.inl ho) hI hg
  · rename_i ho; exact ok_move (.inr ho) hI hg
  · rename_i ho; exact ok_pick ho hI hg
  · rename_i ho; exact ok_bin hV.ck ho hI hg
  · rename_i ho; exact ok_un ho hI hg
  · rename_i ho; exact ok_conv hV.ck ho hI hg
  · rename_i ho; exact ok_fieldAddr hV.ck ho hI hg
  · rename_i ho; exact ok_field hV.ck ho hI hg
  · rename_i ho; exact ok_extract ho hI hg
  · rename_i ho; exact ok_makeFunc ho hI hg
  · rename_i ho; exact ok_nilCheck ho hI hg
  · rename_i ho; exact ok_alloc hV.ck ho hI hg
  · rename_i ho; exact ok_box ho hI hg
  · rename_i ho; exact ok_load hV.ck ho hI hg
  · rename_i ho; exact ok_store hV.ck ho hI hg
  · rename_i ho; exact ok_indexAddr hV.ck ho hI hg
  · rename_i ho; exact ok_cut hV.ck ho hI hg
  · rename_i ho; exact ok_build hV.ck ho hI hg
  · rename_i ho
    cases hlk : h.lk
    · rw [hlk] at hg; exact ok_buildSlice hV.ck ho hI hg
    · rw [hlk] at hg; exact ok_buildLnk hV.ck ho hI hg
  · rename_i ho; exact ok_make hV.ck ho hI hg
  · rename_i c ho
    obtain ⟨cal, args, ts⟩ := c
    unfold semC at hg
    split at hg
    · rename_i h1 h2 h3
      obtain rfl : cal = _ := h1
      obtain rfl : args = _ := arr1 h2
      obtain rfl : ts = _ := arr1 h3
      exact ok_lenD hV.ck ho hI hg
    · rename_i h1 h2
      obtain rfl : cal = _ := h1
      obtain rfl : args = _ := arr2 h2
      exact ok_min ho hI hg
    · rename_i h1 h2
      obtain rfl : cal = _ := h1
      obtain rfl : args = _ := arr2 h2
      exact ok_max ho hI hg
    · rename_i h1 h2 h3
      obtain rfl : cal = _ := h1
      obtain rfl : args = _ := arr2 h2
      obtain rfl : ts = _ := arr2 h3
      cases hlk : h.lk
      · rw [hlk] at hg; exact ok_app hV.ck ho hI hg
      · rw [hlk] at hg; exact ok_appL hV.ck ho hI hg
    · rename_i h1 h2 h3
      obtain rfl : cal = _ := h1
      obtain rfl : args = _ := arr2 h2
      obtain rfl : ts = _ := arr2 h3
      exact ok_copy hV.ck ho hI hg
    · rename_i h1 h2 h3
      obtain rfl : cal = _ := h1
      obtain rfl : args = _ := arr1 h2
      obtain rfl : ts = _ := arr1 h3
      exact ok_clear hV.ck ho hI hg
    · rename_i f h1
      obtain rfl : cal = _ := h1
      split at hg
      · rename_i p hp
        exact ok_prim (hV.prims f p hp) ho hI hg
      · split at hg
        · rename_i s r hs hr
          exact ok_call (hV.fits f s hs) ho hI hg
        · exact absurd hg Rd.gives_fail
    · exact absurd hg Rd.gives_fail
  · rename_i ho; exact ok_makeD ho hI hg
  · rename_i ho; exact ok_insD hV.ck (.inl ho) hI hg
  · rename_i ho; exact ok_insD hV.ck (.inr ho) hI hg
  · rename_i ho; exact ok_lookD hV.ck ho hI hg
  · exact absurd hg Rd.gives_fail
def fixW (b : Bool) : List Wr → List Prop × List Wr
  | [] => ([], [])
  | .tmp t (.cv (.one (.bool c))) :: r => ((c = b) :: (fixW b r).1, .tmp t (.cv (.one (.bool b))) :: (fixW b r).2)
  | w :: r => ((fixW b r).1, w :: (fixW b r).2)
theorem fixW_ok {b : Bool} : ∀ {l : List Wr}, AllP (fixW b l).1 → (fixW b l).2 = l
  | [], _ => rfl
  | x :: r, h => by
    unfold fixW at h ⊢
    split at h
    · rename_i h1; cases h1
    · rename_i t c r' h1
      cases h1
      have h2 : c = b := h.1
      have h3 := fixW_ok h.2
      simp only [h3, h2]
    · rename_i h1
      cases h1
      simp only [fixW_ok h]
def fixR (b : Option Bool) (x : Res) : Res := match b with
  | none => x
  | some b => ⟨x.cs ++ (fixW b x.ws).1, (fixW b x.ws).2, x.rs⟩
theorem fixR_ok {b : Option Bool} {x : Res} (h : AllP (fixR b x).cs) : AllP x.cs ∧ (fixR b x).ws = x.ws := by
  cases b with
  | none => exact ⟨h, rfl⟩
  | some b =>
    obtain ⟨h1, h2⟩ := AllP.app.1 h
    exact ⟨h1, fixW_ok h2⟩
/-- Whether an operation is to run. -/
def gd (ops : List Oper) (σ : St) (o : Oper) : Option (Bool × List Pl) := match o.guard with
  | none => some (true, [])
  | some (j, want) => match nth ops j with
    | some p => match p.dst with
      | some t => match lk σ.tmps t with
        | .cv (.one (.bool true)) => some (want, [.tmp t])
        | .cv (.one (.bool false)) => some (!want, [.tmp t])
        | .tup [] => some (false, [.tmp t])
        | _ => none
      | none => none
    | none => none
def opRes (V : Env) (nt hn : Nat) (ops : List Oper) (hs : List (Nat × Hint)) (i : Nat) (σ : St) : Option Res := match nth ops i with
  | none => none
  | some o => match gd ops σ o with
    | none => none
    | some (true, ps) => match (sem V.tt V.Γ V.pr nt hn (hlk hs i) o).run σ with
      | some x => some ⟨(fixR (hlk hs i).bv x).cs, (fixR (hlk hs i).bv x).ws, ps ++ x.rs⟩
      | none => none
    | some (false, ps) => match o.dst with
      | none => some ⟨[], [], ps⟩
      | some t => cond (Nat.blt t nt) (some ⟨[], [.tmp t (.tup [])], ps⟩) none
theorem gd_ok (hI : Inv F0 w0 E σ a w) {ops : Array Oper} {o : Oper} {b : Bool} {ps : List Pl} (h : gd ops.toList σ o = some (b, ps)) : Region.wanted o (yielded ops a.tmps) = b := by
  unfold gd at h
  unfold Region.wanted
  split at h
  · rename_i hg
    rw [hg]
    simp only [Option.some.injEq, Prod.mk.injEq] at h
    exact h.1
  · rename_i j want hg
    rw [hg]
    split at h
    · rename_i p hp
      rw [nth_eq] at hp
      split at h
      · rename_i t ht
        have hr := hI.tmp t
        have key : ∀ c : Bool, a.tmps.getD t undef = .bool c → yielded ops a.tmps j = some c := by
          intro c hc
          have hp' : ops[j]? = some p := by simpa using hp
          have h2 : a.tmps[t]? = some (.bool c) := by
            rw [Array.getD_eq_getD_getElem?] at hc
            cases e : a.tmps[t]? with
            | none => rw [e] at hc; cases hc
            | some v => rw [e] at hc; simpa using hc
          simp [yielded, hp', ht, h2]
        split at h
        · rename_i hl
          rw [hl] at hr
          show (yielded ops a.tmps j == some want) = b
          rw [key true hr]
          simp only [Option.some.injEq, Prod.mk.injEq] at h
          rw [← h.1]
          cases want <;> rfl
        · rename_i hl
          rw [hl] at hr
          show (yielded ops a.tmps j == some want) = b
          rw [key false hr]
          simp only [Option.some.injEq, Prod.mk.injEq] at h
          rw [← h.1]
          cases want <;> rfl
        · rename_i hl
          rw [hl] at hr
          obtain ⟨vs, hv, hvs⟩ := hr
          have hp' : ops[j]? = some p := by simpa using hp
          have hn : ∀ c : Bool, yielded ops a.tmps j ≠ some c := by
            intro c hc
            rw [Array.getD_eq_getD_getElem?] at hv
            simp only [yielded, hp', ht, Option.bind_some] at hc
            cases e : a.tmps[t]? with
            | none => rw [e] at hc; cases hc
            | some v => rw [e] at hv hc; simp at hv; rw [hv] at hc; simp at hc
          simp only [Option.some.injEq, Prod.mk.injEq] at h
          rw [← h.1]
          show (yielded ops a.tmps j == some want) = false
          cases e : yielded ops a.tmps j with
          | none => rfl
          | some c => exact absurd e (hn c)
        · cases h
      · cases h
    · cases h
def Then (F0 : Nat → Prop) (w0 : World) (E : En) (w : World) (σ' : St) (a' : Act) (w' : World) : Prop := ∃ E', Inv F0 w0 E' σ' a' w' ∧ Evo E w E' w'
theorem ok_op (hV : EnvOk P V) {hn i : Nat} {ops : Array Oper} {hs : List (Nat × Hint)} {x : Res} {Q : Exit → Act → World → Prop} (hI : Inv F0 w0 E σ a w) (hhn : hn = σ.heap.length) (h : opRes V σ.nt hn ops.toList hs i σ = some x) (hc : AllP x.cs) :
    wpOp P ops Q i (Then F0 w0 E w (σ.aps x.ws)) a w := by
  unfold opRes at h
  split at h
  · cases h
  · rename_i o ho
    rw [nth_eq] at ho
    have ho' : ops[i]? = some o := by simpa using ho
    unfold wpOp
    rw [ho']
    simp only
    split at h
    · cases h
    · rename_i ps hgd
      rw [gd_ok hI hgd, if_pos rfl]
      split at h
      · rename_i y hy
        obtain rfl := Option.some.inj h
        obtain ⟨h1, h2⟩ := fixR_ok hc
        refine .inl ?_
        have := ok_sem (Q := Q) hV hI hhn (ws := y.ws) ⟨y, hy, h1, rfl⟩
        rw [h2]
        exact this
      · cases h
    · rename_i ps hgd
      rw [gd_ok hI hgd]
      simp only [Bool.false_eq_true, if_false]
      split at h
      · rename_i hd
        obtain rfl := Option.some.inj h
        rw [hd]
        exact ⟨E, hI, Evo.refl E w⟩
      · rename_i t hd
        cases hb : Nat.blt t σ.nt
        · rw [hb] at h; cases h
        · rw [hb, cond_true] at h
          obtain rfl := Option.some.inj h
          rw [hd]
          exact ⟨E, hI.put (Nat.le_of_ble_eq_true hb) ⟨#[], rfl, trivial⟩, Evo.refl E w⟩
theorem aps_nt : ∀ (l : List Wr) (σ : St), (σ.aps l).nt = σ.nt
  | [], _ => rfl
  | w :: r, σ => by rw [St.aps, aps_nt r]; cases w <;> rfl
theorem aps_len : ∀ (l : List Wr) (σ : St), (σ.aps l).heap.length = σ.heap.length
  | [], _ => rfl
  | w :: r, σ => by rw [St.aps, aps_len r]; cases w <;> simp [St.ap, hs_len]
/-- One operation behind the other. -/
def evalL (V : Env) (nt hn : Nat) (ops : List Oper) (hs : List (Nat × Hint)) : List Nat → St → Option (List (Nat × Res) × St)
  | [], σ => some ([], σ)
  | i :: r, σ => match opRes V nt hn ops hs i σ with
    | none => none
    | some x => match evalL V nt hn ops hs r (σ.aps x.ws) with
      | none => none
      | some (l, τ) => some ((i, x) :: l, τ)
def conds : List (Nat × Res) → List Prop
  | [] => []
  | (_, x) :: r => x.cs ++ conds r
theorem ok_seq (hV : EnvOk P V) {hn : Nat} {ops : Array Oper} {hs : List (Nat × Hint)} {Q : Exit → Act → World → Prop} : ∀ {is : List Nat} {σ τ : St} {l : List (Nat × Res)} {E : En} {a : Act} {w : World}, Inv F0 w0 E σ a w → hn = σ.heap.length → evalL V σ.nt hn ops.toList hs is σ = some (l, τ) → AllP (conds l) →
    (∀ a' w', Then F0 w0 E w τ a' w' → Q .normal a' w') → wpOps P ops Q is a w
  | [], σ, τ, l, E, a, w, hI, hhn, h, hc, hQ => by
    simp only [evalL, Option.some.injEq, Prod.mk.injEq] at h
    obtain ⟨_, rfl⟩ := h
    exact hQ _ _ ⟨E, hI, Evo.refl E w⟩
  | i :: is, σ, τ, l, E, a, w, hI, hhn, h, hc, hQ => by
    unfold evalL at h
    split at h
    · cases h
    · rename_i x hx
      split at h
      · cases h
      · rename_i l' τ' hl'
        simp only [Option.some.injEq, Prod.mk.injEq] at h
        obtain ⟨rfl, rfl⟩ := h
        obtain ⟨hc1, hc2⟩ := AllP.app.1 hc
        rw [wpOps_cons]
        refine wpOp_mono (fun a' w' hT => ?_) (ok_op hV hI hhn hx hc1)
        obtain ⟨E', hI', he⟩ := hT
        refine ok_seq (hn := hn) (hs := hs) hV hI' (by rw [hhn, aps_len]) (by rw [aps_nt]; exact hl') hc2 (fun a'' w'' hT' => hQ _ _ ?_)
        obtain ⟨E'', hI'', he'⟩ := hT'
        exact ⟨E'', hI'', he.trans he'⟩
end
end Go.Proofs.YtkhjemahenkdiaaGreatDoor.V
