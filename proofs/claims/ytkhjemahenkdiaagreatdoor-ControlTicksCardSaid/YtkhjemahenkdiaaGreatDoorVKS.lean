/- Steps whose states and places Lean works out: a place in the code, with what is around it. -/
import Derived.Test.YtkhjemahenkdiaaGreatDoorVY
namespace Go.Proofs.YtkhjemahenkdiaaGreatDoor.V
open Go Go.RowKit
set_option linter.unusedVariables false
set_option linter.unusedSimpArgs false
theorem tr {α : Sort _} {a b c : α} (h : b = c) (e : a = b := by kernel_rfl) : a = c := e.trans h
inductive Fr where
  | thn (c : Code)
  | blk (i : Nat)
  | lp (c : Code) (m : Nat)
  | sc (b : Code) (l m : Nat)
inductive Nx where
  | en (c : Code) (fs : List Fr)
  | pl (c : Code) (fs : List Fr)
  | nm (fs : List Fr)
  | ex (i : Nat) (fs : List Fr)
  | rt (fs : List Fr)
  | gt (l : Nat) (fs : List Fr)
  | fin (e : Exit)
  | back (c : Code) (m : Nat) (fs : List Fr)
  | gb (b : Code) (l m : Nat) (fs : List Fr)
def phiF (P : Program) (n : Nat) (Q : Exit → St → Prop) : List Fr → Exit → St → Prop
  | [] => Q
  | .thn c :: fs => thenW P n c (phiF P n Q fs)
  | .blk i :: fs => blockW i (phiF P n Q fs)
  | .lp c m :: fs => roundW P n c (phiF P n Q fs) m
  | .sc b l m :: fs => gotoW P n b l (phiF P n Q fs) m
def Gw (P : Program) (n : Nat) (Q : Exit → St → Prop) (x : Nx) (σ : St) : Prop := match x with
  | .en c fs => W P n c σ (phiF P n Q fs)
  | .pl c fs => W P n c σ (phiF P n Q fs)
  | .nm fs => phiF P n Q fs .normal σ
  | .ex i fs => phiF P n Q fs (.exit i) σ
  | .rt fs => phiF P n Q fs .ret σ
  | .gt l fs => phiF P n Q fs (.goto l) σ
  | .fin e => Q e σ
  | .back c m fs => WL P n c (phiF P n Q fs) m σ
  | .gb b l m fs => WG P n b l (phiF P n Q fs) m σ
def stp : Nx → Nx
  | .en c fs => match c with
    | .seq a b => .en a (.thn b :: fs)
    | .block i b => .en b (.blk i :: fs)
    | .skip => .nm fs
    | .label _ => .nm fs
    | .exit i => .ex i fs
    | .goto l => .gt l fs
    | c => .pl c fs
  | .nm fs => match fs with
    | [] => .fin .normal
    | .thn c :: fs => .en c fs
    | .blk _ :: fs => .nm fs
    | .lp c m :: fs => .back c m fs
    | .sc _ _ _ :: fs => .nm fs
  | .ex i fs => match fs with
    | [] => .fin (.exit i)
    | .blk j :: fs => cond (Nat.beq i j) (.nm fs) (.ex i fs)
    | _ :: fs => .ex i fs
  | .rt fs => match fs with
    | [] => .fin .ret
    | _ :: fs => .rt fs
  | .gt l fs => match fs with
    | [] => .fin (.goto l)
    | .sc b l' m :: fs => cond (Nat.beq l l') (.gb b l' m fs) (.gt l (.sc b l' m :: fs))
    | _ :: fs => .gt l fs
  | x => x
def go : Nat → Nx → Nx
  | 0, x => x
  | k + 1, x => match x with
    | .pl c fs => .pl c fs
    | .fin e => .fin e
    | .back c m fs => .back c m fs
    | .gb b l m fs => .gb b l m fs
    | x => go k (stp x)
section
variable {P : Program} {V : Env} {σ τ : St} {n : Nat} {Q : Exit → St → Prop} {x x' : Nx}
theorem stp_ok (h : Gw P n Q (stp x) σ) : Gw P n Q x σ := by
  cases x with
  | en c fs =>
    cases c <;> try exact h
    case seq a b => exact W_seq h
    case block i b => exact W_block h
    case skip => exact W_skip h
    case label l => exact W_label h
    case exit i => exact W_exit h
    case goto l => exact W_goto h
  | nm fs =>
    match fs, h with
    | [], h => exact h
    | .thn c :: fs, h => exact h
    | .blk i :: fs, h => exact h
    | .lp c m :: fs, h => exact h
    | .sc b l m :: fs, h => exact h
  | ex i fs =>
    match fs, h with
    | [], h => exact h
    | .thn c :: fs, h => exact h
    | .blk j :: fs, h =>
      change Gw P n Q (cond (Nat.beq i j) (.nm fs) (.ex i fs)) σ at h
      cases hb : Nat.beq i j
      · rw [hb] at h; exact bl_x hb h
      · rw [hb] at h
        obtain rfl := Nat.eq_of_beq_eq_true hb
        exact bl_h h
    | .lp c m :: fs, h => exact h
    | .sc b l m :: fs, h => exact h
  | rt fs =>
    match fs, h with
    | [], h => exact h
    | .thn c :: fs, h => exact h
    | .blk j :: fs, h => exact h
    | .lp c m :: fs, h => exact h
    | .sc b l m :: fs, h => exact h
  | gt l fs =>
    match fs, h with
    | [], h => exact h
    | .thn c :: fs, h => exact h
    | .blk j :: fs, h => exact h
    | .lp c m :: fs, h => exact h
    | .sc b l' m :: fs, h =>
      change Gw P n Q (cond (Nat.beq l l') (.gb b l' m fs) (.gt l (.sc b l' m :: fs))) σ at h
      cases hb : Nat.beq l l'
      · rw [hb] at h; exact h
      · rw [hb] at h
        obtain rfl := Nat.eq_of_beq_eq_true hb
        exact go_h h
  | pl c fs => exact h
  | fin e => exact h
  | back c m fs => exact h
  | gb b l m fs => exact h
theorem go_ok : ∀ {k : Nat} {x : Nx}, Gw P n Q (go k x) σ → Gw P n Q x σ
  | 0, _, h => h
  | k + 1, x, h => by
    cases x with
    | pl c fs => exact h
    | fin e => exact h
    | back c m fs => exact h
    | gb b l m fs => exact h
    | en c fs => exact stp_ok (go_ok (k := k) h)
    | nm fs => exact stp_ok (go_ok (k := k) h)
    | ex i fs => exact stp_ok (go_ok (k := k) h)
    | rt fs => exact stp_ok (go_ok (k := k) h)
    | gt l fs => exact stp_ok (go_ok (k := k) h)
-- places
def labOf : Code → Option Nat
  | .seq (.label l) _ => some l
  | .seq _ b => labOf b
  | _ => none
def scL (c : Code) : Option (Nat × Code) := match labOf c with
  | some l => match findLabel c l with
    | some (.seq .skip b) => some (l, b)
    | _ => none
  | none => none
def pth : Nat → Nat → List Bool
  | 0, _ => []
  | k + 1, p => cond (Nat.ble p 1) [] (Nat.beq (Nat.mod p 2) 1 :: pth k (Nat.div p 2))
def ctx : Code → List Bool → List Nat → List Fr → Nx
  | c, [], _, fs => .en c fs
  | .seq a b, x :: p, ms, fs => cond x (ctx b p ms fs) (ctx a p ms (.thn b :: fs))
  | .cond _ a b, x :: p, ms, fs => cond x (ctx b p ms fs) (ctx a p ms fs)
  | .block i a, _ :: p, ms, fs => ctx a p ms (.blk i :: fs)
  | .loop a, _ :: p, m :: ms, fs => ctx a p ms (.lp a m :: fs)
  | .scope a, _ :: p, m :: ms, fs => match scL a with
    | some (l, b) => ctx a p ms (.sc b l m :: fs)
    | none => .fin .normal
  | _, _, _, _ => .fin .normal
def Px (c : Code) (p : Nat) (ms : List Nat) : Nx := go 1000 (ctx c (pth 300 p) ms [])
def Pb (c : Code) (p : Nat) (ms : List Nat) (m : Nat) : Nx := match ctx c (pth 300 p) ms [] with
  | .en (.loop b) fs => .back b m fs
  | .en (.scope a) fs => match scL a with
    | some (l, b) => .gb b l m fs
    | none => .fin .normal
  | x => x
theorem of_G {c : Code} (h : Gw P n Q (Px c 1 []) σ) : W P n c σ Q := by
  have h1 : Gw P n Q (ctx c (pth 300 1) [] []) σ := go_ok h
  have h2 : pth 300 1 = [] := rfl
  rw [h2] at h1
  have h3 : ctx c [] [] [] = .en c [] := by cases c <;> rfl
  rw [h3] at h1
  exact h1
def nx : Nx → Nx
  | .pl _ fs => go 1000 (.nm fs)
  | x => x
def isPl : Nx → Bool
  | .pl _ _ => true
  | _ => false
-- told anew
def okJ : Nx → Bool
  | .pl _ _ => true
  | .en _ _ => true
  | .back _ _ _ => true
  | .gb _ _ _ _ => true
  | _ => false
theorem G_pre (hx : okJ x = true) (hs : ∀ {F0 w0 E a w}, Inv F0 w0 E σ a w → ∃ E', Inv F0 w0 E' τ a w ∧ EvoN n E w E' w) (h : Gw P n Q x τ) : Gw P n Q x σ := by
  have hW : ∀ {c : Code} {Φ : Exit → St → Prop}, W P n c τ Φ → W P n c σ Φ := fun hW F0 w0 E a w hI => by
    obtain ⟨E', i, v⟩ := hs hI
    exact wp_mono (hW F0 w0 E' a w i) fun e a' w' hp => hp.trans v
  cases x with
  | pl c fs => exact hW h
  | en c fs => exact hW h
  | back c m fs =>
    exact fun F0 w0 E a w hI => by
      obtain ⟨E', i, v⟩ := hs hI
      exact rounds_mono (fun e a' w' hp => hp.trans v) (h F0 w0 E' a w i)
  | gb b l m fs =>
    exact fun F0 w0 E a w hI => by
      obtain ⟨E', i, v⟩ := hs hI
      exact jumps_mono (fun e a' w' hp => hp.trans v) m a w (h F0 w0 E' a w i)
  | nm fs => cases hx
  | ex i fs => cases hx
  | rt fs => cases hx
  | gt l fs => cases hx
  | fin e => cases hx
def telN (x : Nx) (n : Nat) (t : Tell) (σ : St) : Option St := cond (okJ x && idN t.src n) (tell t σ) none
def sm : List Nat → List (Option Nat)
  | [] => []
  | j :: r => some j :: sm r
abbrev tn (live : List Nat) (n : Nat) : Tell := { live := live, src := sm (List.range n) }
abbrev AV.i (n : Int) : AV := .int .i64 n
abbrev TV.o (a : AV) : TV := .cv (.one a)
abbrev tl (live src : List Nat) : Tell := { live := live, src := sm src }
theorem telN_inv {t : Tell} (h : telN x n t σ = some τ) : okJ x = true ∧ ∀ {F0 w0 E a w}, Inv F0 w0 E σ a w → ∃ E', Inv F0 w0 E' τ a w ∧ EvoN n E w E' w := by
  unfold telN at h
  cases hb : (okJ x && idN t.src n)
  · rw [hb] at h; cases h
  · rw [hb] at h
    simp only [Bool.and_eq_true] at hb
    exact ⟨hb.1, fun hI => tell_inv hb.2 hI h⟩
theorem Jm (t : Tell) (hk : Gw P n Q x' τ) (hx : x = x' := by kernel_rfl) (h : telN x' n t σ = some τ := by kernel_rfl) : Gw P n Q x σ := by
  subst hx
  obtain ⟨h1, h2⟩ := telN_inv h
  exact G_pre h1 h2 hk
theorem isSome_get {α : Type} {o : Option α} (h : o.isSome = true) (d : α) : o = some (o.getD d) := by
  cases o with
  | none => cases h
  | some x => rfl
def telS (t : Tell) (σ : St) : St := (tell t σ).getD σ
theorem GT (t : Tell) (hk : Gw P n Q x (telS t σ)) (h : (telN x n t σ).isSome = true := by kernel_rfl) : Gw P n Q x σ := by
  obtain ⟨h1, h2⟩ := telN_inv (isSome_get h σ)
  refine G_pre h1 h2 ?_
  have : (telN x n t σ).getD σ = telS t σ := by
    unfold telN at h ⊢
    cases hb : (okJ x && idN t.src n)
    · rw [hb] at h; cases h
    · rfl
  rw [this]
  exact hk
def frzN (x : Nx) (j : Nat) (σ : St) : Bool := okJ x && (freeze1 j σ).isSome
def frzS (j : Nat) (σ : St) : St := (freeze1 j σ).getD σ
theorem FZ (j : Nat) (hk : Gw P n Q x (frzS j σ)) (h : frzN x j σ = true := by kernel_rfl) : Gw P n Q x σ := by
  simp only [frzN, Bool.and_eq_true] at h
  exact G_pre h.1 (fun hI => ⟨_, freeze_inv hI (isSome_get h.2 σ), .of fr_evo⟩) hk
-- hints
abbrev hb (j : Nat) : Hint := { sb := j }
abbrev ho : Hint := { own := false }
abbrev hr (s : Spec) (y : Tup s.rs) : Hint := { res := some ⟨s.rs, y⟩ }
-- conditions
theorem az : AllP [] := trivial
theorem ac {p : Prop} {l : List Prop} (h : p) (hl : AllP l) : AllP (p :: l) := ⟨h, hl⟩
-- regions
def rgC (V : Env) (x : Nx) (g : Nat) (hs : List (Nat × Hint)) (σ : St) : Option (List Prop) := match x with
  | .pl (.region _ ops draw) _ => match reg V ops draw hs (gro g σ) with
    | some (cs, _) => some cs
    | none => none
  | _ => none
def rgS (V : Env) (x : Nx) (g : Nat) (hs : List (Nat × Hint)) (σ : St) : St := match x with
  | .pl (.region _ ops draw) _ => match reg V ops draw hs (gro g σ) with
    | some (_, τ) => τ
    | none => σ
  | _ => σ
theorem Rg (hV : EnvOk P V) (g : Nat) (hs : List (Nat × Hint)) {cs : List Prop} (hc : AllP cs) (hk : Gw P n Q (nx x) (rgS V x g hs σ)) (h : rgC V x g hs σ = some cs := by kernel_rfl) : Gw P n Q x σ := by
  unfold rgC at h
  split at h
  · rename_i id ops draw fs
    simp only [rgS, nx] at hk
    split at h
    · rename_i cs' τ' hr
      obtain rfl := Option.some.inj h
      rw [hr] at hk
      have h1 : Gw P n Q (.nm fs) τ' := go_ok hk
      exact fun F0 w0 E a w hI => W_region hV hr hc h1 F0 w0 E a w (gro_inv hI g)
    · cases h
  · cases h
-- the two ways of a condition
def cbS (x : Nx) (σ : St) : Option Bool := match x with
  | .pl (.cond (.tmp t) _ _) _ => match lk σ.tmps t with
    | .cv (.one (.bool b)) => some b
    | _ => none
  | _ => none
def thn : Nx → Nx
  | .pl (.cond _ a _) fs => go 1000 (.en a fs)
  | x => x
def els : Nx → Nx
  | .pl (.cond _ _ b) fs => go 1000 (.en b fs)
  | x => x
theorem cb_ok {b : Bool} (hb : cbS x σ = some b) : ∃ t c d fs, x = .pl (.cond (.tmp t) c d) fs ∧ lk σ.tmps t = .cv (.one (.bool b)) := by
  unfold cbS at hb
  split at hb
  · split at hb
    · rename_i h
      obtain rfl := Option.some.inj hb
      exact ⟨_, _, _, _, rfl, h⟩
    · cases hb
  · cases hb
theorem C1 {b : Bool} (h : b = true) (hk : Gw P n Q (thn x) σ) (hb : cbS x σ = some b := by kernel_rfl) : Gw P n Q x σ := by
  subst h
  obtain ⟨t, c, d, fs, rfl, hl⟩ := cb_ok hb
  have h1 : Gw P n Q (.en c fs) σ := go_ok hk
  exact W_condT hl h1
theorem C0 {b : Bool} (h : b = false) (hk : Gw P n Q (els x) σ) (hb : cbS x σ = some b := by kernel_rfl) : Gw P n Q x σ := by
  subst h
  obtain ⟨t, c, d, fs, rfl, hl⟩ := cb_ok hb
  have h1 : Gw P n Q (.en d fs) σ := go_ok hk
  exact W_condF hl h1
-- loops, scopes
def lpx (x : Nx) (m : Nat) : Nx := match x with
  | .pl (.loop b) fs => .back b m fs
  | x => x
def scx (x : Nx) (m : Nat) : Nx := match x with
  | .pl (.scope c) fs => match scL c with
    | some (l, b) => go 1000 (.en c (.sc b l m :: fs))
    | none => x
  | x => x
def sux : Nx → Nx
  | .back b (m + 1) fs => go 1000 (.en b (.lp b m :: fs))
  | .gb b l (m + 1) fs => go 1000 (.en b (.sc b l m :: fs))
  | x => x
theorem LP (m : Nat) (hk : Gw P n Q (lpx x m) σ) : Gw P n Q x σ := by
  unfold lpx at hk
  split at hk
  · exact W_loop m hk
  · exact hk
theorem SC (m : Nat) (hk : Gw P n Q (scx x m) σ) : Gw P n Q x σ := by
  unfold scx at hk
  split at hk
  · rename_i c fs
    split at hk
    · rename_i l b hs
      have h1 : Gw P n Q (.en c (.sc b l m :: fs)) σ := go_ok hk
      have hf : findLabel c l = some (.seq .skip b) := by
        unfold scL at hs
        split at hs
        · split at hs
          · rename_i h
            simp only [Option.some.injEq, Prod.mk.injEq] at hs
            obtain ⟨rfl, rfl⟩ := hs
            exact h
          · cases hs
        · cases hs
      exact D_scope (c := .scope c) rfl hf m h1
    · exact hk
  · exact hk
theorem UN (hk : Gw P n Q (sux x) σ) : Gw P n Q x σ := by
  unfold sux at hk
  split at hk
  · exact WL_succ (go_ok (x := .en _ (.lp _ _ :: _)) hk)
  · exact WG_succ (go_ok (x := .en _ (.sc _ _ _ :: _)) hk)
  · exact hk
theorem SU (hx : sux x = x') (hk : Gw P n Q x' σ) : Gw P n Q x σ := by subst hx; exact UN hk
-- ends
def fe : Nx → Nx
  | .pl .ret fs => go 1000 (.rt fs)
  | x => x
theorem fe_ok (h : Gw P n Q (fe x) σ) : Gw P n Q x σ := by
  unfold fe at h
  split at h
  · exact W_ret (go_ok (x := .rt _) h)
  · exact h
def isFin (x : Nx) : Bool := match fe x with
  | .fin .normal => true
  | .fin .ret => true
  | _ => false
theorem isFin_ok (hx : isFin x = true) (h : ∀ e, (e = .normal ∨ e = .ret) → Q e σ) : Gw P n Q x σ := by
  refine fe_ok ?_
  unfold isFin at hx
  split at hx
  · rename_i e; rw [e]; exact h _ (.inl rfl)
  · rename_i e; rw [e]; exact h _ (.inr rfl)
  · cases hx
def retX (x : Nx) (tt : TT) (rs : Array ResultVar) (σ : St) (s : Spec) : Option (Tup s.rs) := cond (isFin x) (ret tt rs σ s) none
theorem Lf {tt : TT} {rs : Array ResultVar} {s : Spec} {r : Tup s.rs} (h : retX x tt rs σ s = some r) : Gw P n (Qr tt rs s r) x σ := by
  unfold retX at h
  cases hb : isFin x
  · rw [hb] at h; cases h
  · rw [hb] at h
    exact isFin_ok hb fun e he => ⟨he, h⟩
def leO (x : Nx) (rs : Array ResultVar) (σ : St) : Option Sl := cond (isFin x) (match rs.toList with
  | [.tmp t] => match lk σ.tmps t with
    | .cv (.one (.own k)) => some (hg σ.heap k).1
    | _ => none
  | _ => none) none
theorem LfO {rs : Array ResultVar} {et : Nat} {τ : Ty} {r : List τ.T × Unit} (h : leO x rs σ = some (.buf et τ r.1)) : Gw P n (QrO rs et τ r) x σ := by
  unfold leO at h
  cases hb : isFin x
  · rw [hb] at h; cases h
  · rw [hb, cond_true] at h
    split at h
    · rename_i t hr
      split at h
      · rename_i k hk
        exact isFin_ok hb fun e he => ⟨he, t, k, arr1 hr, hk, Option.some.inj h⟩
      · cases h
    · cases h
def leO2 (x : Nx) (rs : Array ResultVar) (σ : St) : Option (Sl × IntKind × Int) := cond (isFin x) (match rs.toList with
  | [.tmp t, .tmp t2] => match lk σ.tmps t, lk σ.tmps t2 with
    | .cv (.one (.own k)), .cv (.one (.int kd i)) => some ((hg σ.heap k).1, kd, i)
    | _, _ => none
  | _ => none) none
theorem LfO2 {rs : Array ResultVar} {et : Nat} {τ : Ty} {kd : IntKind} {r : List τ.T × Int × Unit} (h : leO2 x rs σ = some (.buf et τ r.1, kd, r.2.1)) : Gw P n (QrO2 rs et τ kd r) x σ := by
  unfold leO2 at h
  cases hb : isFin x
  · rw [hb] at h; cases h
  · rw [hb, cond_true] at h
    split at h
    · rename_i t t2 hr
      split at h
      · rename_i k kd' i hk hk2
        simp only [Option.some.injEq, Prod.mk.injEq] at h
        obtain ⟨h1, rfl, rfl⟩ := h
        exact isFin_ok hb fun e he => ⟨he, t, k, t2, arr2 hr, hk, h1, hk2⟩
      · cases h
    · cases h
def telQ (x : Nx) (N : Nat) (t : Tell) (σ : St) : Option St := cond (isFin x && idN t.src N) (tell t σ) none
theorem Lq {N : Nat} (t : Tell) (h : telQ x N t σ = some τ := by kernel_rfl) : Gw P n (CallQ N τ) x σ := by
  unfold telQ at h
  cases hb : (isFin x && idN t.src N)
  · rw [hb] at h; cases h
  · rw [hb] at h
    simp only [Bool.and_eq_true] at hb
    exact isFin_ok hb.1 fun e he => ⟨he, t, h, hb.2⟩
-- a slice that is asked whether it is nil
def capS (σ : St) (t : Nat) (e : Ty) (xs : List e.T) (c : Cap) : St := σ.ap (.tmp t (.cv (.one (.sl e xs c))))
theorem NL {t : Nat} {e : Ty} {xs : List e.T} (hx : isPl x = true) (ht : lk σ.tmps t = .cv (.one (.sl e xs .any))) (h1 : xs = [] → Gw P n Q x (capS σ t e xs .nl)) (h2 : Gw P n Q x (capS σ t e xs .nn)) : Gw P n Q x σ := by
  cases x with
  | pl c fs => exact D_nil ht rfl rfl h1 h2
  | _ => cases hx
-- calls that are walked, in a region in its order
def GO (P : Program) (n : Nat) (Q : Exit → St → Prop) (x : Nx) (is : List Nat) (σ : St) : Prop := match x with
  | .pl (.region _ ops false) fs => WO P n ops is σ (phiF P n Q fs)
  | _ => False
def opsX : Nx → Array Oper
  | .pl (.region _ ops _) _ => ops
  | _ => #[]
def isRI : Nx → Bool
  | .pl (.region _ _ false) _ => true
  | _ => false
theorem RI_ex (h : isRI x = true) : ∃ id ops fs, x = .pl (.region id ops false) fs := by
  unfold isRI at h
  split at h
  · exact ⟨_, _, _, rfl⟩
  · cases h
theorem RI (hk : GO P n Q x (List.range (opsX x).size) σ) (h : isRI x = true := by kernel_rfl) : Gw P n Q x σ := by
  obtain ⟨id, ops, fs, rfl⟩ := RI_ex h
  exact D_regI (c := .region id ops false) _ rfl rfl hk
def evC (V : Env) (x : Nx) (g : Nat) (hs : List (Nat × Hint)) (is : List Nat) (σ : St) : Option (List Prop) := match evD V (opsX x) g hs is σ with
  | some (cs, _) => some cs
  | none => none
def evT (V : Env) (x : Nx) (g : Nat) (hs : List (Nat × Hint)) (is : List Nat) (σ : St) : St := match evD V (opsX x) g hs is σ with
  | some (_, τ) => τ
  | none => σ
theorem GO_ex {is : List Nat} (h : GO P n Q x is σ) : ∃ id ops fs, x = .pl (.region id ops false) fs := by
  unfold GO at h
  split at h
  · exact ⟨_, _, _, rfl⟩
  · cases h
theorem EV (hV : EnvOk P V) (g : Nat) (hs : List (Nat × Hint)) (j : Nat) {is : List Nat} {cs : List Prop} (hc : AllP cs) (hk : GO P n Q x (is.drop j) (evT V x g hs (is.take j) σ)) (h : evC V x g hs (is.take j) σ = some cs := by kernel_rfl) : GO P n Q x is σ := by
  obtain ⟨id, ops, fs, rfl⟩ := GO_ex hk
  unfold evC at h
  split at h
  · rename_i cs' τ' hr
    obtain rfl := Option.some.inj h
    unfold evT at hk
    rw [hr] at hk
    exact D_ev hV g hs (is.take j) (is.drop j) (List.take_append_drop j is).symm hr hc hk
  · cases h
theorem RN {is : List Nat} (hk : Gw P n Q (nx x) σ) (hx : isRI x = true := by kernel_rfl) (hi : is.isEmpty = true := by kernel_rfl) : GO P n Q x is σ := by
  obtain ⟨id, ops, fs, rfl⟩ := RI_ex hx
  obtain rfl := List.isEmpty_iff.1 hi
  have h1 : Gw P n Q (.nm fs) σ := go_ok hk
  exact WO_nil h1
theorem GO_pre {is : List Nat} (hs : ∀ {F0 w0 E a w}, Inv F0 w0 E σ a w → ∃ E', Inv F0 w0 E' τ a w ∧ EvoN n E w E' w) (h : GO P n Q x is τ) : GO P n Q x is σ := by
  obtain ⟨id, ops, fs, rfl⟩ := GO_ex h
  exact fun F0 w0 E a w q hI hQ => by
    obtain ⟨E', i, v⟩ := hs hI
    exact h F0 w0 E' a w q i fun a' w' E'' σ' h1 h2 h3 => hQ a' w' E'' σ' h1 h2 (v.trans h3)
theorem FZO (j : Nat) {is : List Nat} (hk : GO P n Q x is (frzS j σ)) (h : (freeze1 j σ).isSome = true := by kernel_rfl) : GO P n Q x is σ :=
  GO_pre (fun hI => ⟨_, freeze_inv hI (isSome_get h σ), .of fr_evo⟩) hk
theorem GTO (t : Tell) {is : List Nat} (hk : GO P n Q x is (telS t σ)) (h : (cond (idN t.src n) (tell t σ) none).isSome = true := by kernel_rfl) : GO P n Q x is σ := by
  cases hb : idN t.src n
  · rw [hb] at h; cases h
  · rw [hb, cond_true] at h
    exact GO_pre (fun hI => tell_inv hb hI (isSome_get h σ)) hk
-- a bool that is told as what it is
def fxS (σ : St) (t : Nat) (b : Bool) : St := σ.ap (.tmp t (.cv (.one (.bool b))))
theorem fx_inv {F0 : Nat → Prop} {w0 : World} {E : En} {a : Act} {w : World} {t : Nat} {b c : Bool} (hb : lk σ.tmps t = .cv (.one (.bool b))) (h : b = c) (hI : Inv F0 w0 E σ a w) : Inv F0 w0 E (fxS σ t c) a w := by
  subst h
  refine ⟨hI.nt, hI.df, fun u => ?_, hI.heap⟩
  simp only [fxS, St.ap, lk_pt]
  by_cases e : t = u
  · subst e
    rw [if_pos rfl, ← hb]
    exact hI.tmp t
  · rw [if_neg e]
    exact hI.tmp u
theorem FX (t : Nat) {b c : Bool} (h : b = c) (hk : Gw P n Q x (fxS σ t c)) (hb : lk σ.tmps t = .cv (.one (.bool b)) := by kernel_rfl) (hx : okJ x = true := by kernel_rfl) : Gw P n Q x σ :=
  G_pre hx (fun hI => ⟨_, fx_inv hb h hI, .of (Evo.refl _ _)⟩) hk
theorem FXO (t : Nat) {b c : Bool} {is : List Nat} (h : b = c) (hk : GO P n Q x is (fxS σ t c)) (hb : lk σ.tmps t = .cv (.one (.bool b)) := by kernel_rfl) : GO P n Q x is σ :=
  GO_pre (fun hI => ⟨_, fx_inv hb h hI, .of (Evo.refl _ _)⟩) hk
-- an index that is told as what it is
def fxI (σ : St) (t : Nat) (k : IntKind) (m : Int) : St := σ.ap (.tmp t (.cv (.one (.int k m))))
theorem fxi_inv {F0 : Nat → Prop} {w0 : World} {E : En} {a : Act} {w : World} {t : Nat} {k : IntKind} {q m : Int} (hb : lk σ.tmps t = .cv (.one (.int k q))) (h : q = m) (hI : Inv F0 w0 E σ a w) : Inv F0 w0 E (fxI σ t k m) a w := by
  subst h
  refine ⟨hI.nt, hI.df, fun u => ?_, hI.heap⟩
  simp only [fxI, St.ap, lk_pt]
  by_cases e : t = u
  · subst e
    rw [if_pos rfl, ← hb]
    exact hI.tmp t
  · rw [if_neg e]
    exact hI.tmp u
theorem FXI (t : Nat) {k : IntKind} {q m : Int} (h : q = m) (hk : Gw P n Q x (fxI σ t k m)) (hb : lk σ.tmps t = .cv (.one (.int k q)) := by kernel_rfl) (hx : okJ x = true := by kernel_rfl) : Gw P n Q x σ :=
  G_pre hx (fun hI => ⟨_, fxi_inv hb h hI, .of (Evo.refl _ _)⟩) hk
theorem FXIO (t : Nat) {k : IntKind} {q m : Int} {is : List Nat} (h : q = m) (hk : GO P n Q x is (fxI σ t k m)) (hb : lk σ.tmps t = .cv (.one (.int k q)) := by kernel_rfl) : GO P n Q x is σ :=
  GO_pre (fun hI => ⟨_, fxi_inv hb h hI, .of (Evo.refl _ _)⟩) hk
/-- A function's code. -/
def FnAt (P : Program) (f nt : Nat) (c : Code) (rs : Array ResultVar) : Prop := ∃ fn, P.funcs[f]? = some fn ∧ fn.body = some c ∧ fn.name ≠ "runtime.NumGoroutine" ∧ fn.ntmps = nt ∧ fn.results = rs
theorem fnAt {f nt : Nat} {c : Code} {rs : Array ResultVar} {fn : Func} (hf : P.funcs[f]? = some fn) (hb : fn.body = some c) (hn : fn.name ≠ "runtime.NumGoroutine") (h1 : fn.ntmps = nt) (h2 : fn.results = rs) : FnAt P f nt c rs := ⟨fn, hf, hb, hn, h1, h2⟩
def clS0 (x : Nx) (is : List Nat) (σ : St) (f nt : Nat) : Option St := match is with
  | i :: _ => match callAt (opsX x) i σ with
    | some (f', cvs) => cond (Nat.beq f' f && Nat.ble cvs.length nt) (some ⟨nt, ptmps 0 cvs, σ.heap⟩) none
    | none => none
  | [] => none
def retR (tt : TT) (rs : Array ResultVar) (ops : Array Oper) (i : Nat) (σ τ : St) : Option St := match nth ops.toList i, resI tt τ rs.toList with
  | some o, some lr => some ⟨σ.nt, match o.dst with | some t => pt σ.tmps t (mkI lr) | none => σ.tmps, τ.heap⟩
  | _, _ => none
def cl2 (tt : TT) (x : Nx) (is : List Nat) (rs : Array ResultVar) (σ τ : St) : Option St := match is with
  | i :: _ => retR tt rs (opsX x) i σ τ
  | [] => none
def clS2 (tt : TT) (x : Nx) (is : List Nat) (rs : Array ResultVar) (σ τ : St) : St := (cl2 tt x is rs σ τ).getD σ
theorem CL (hV : EnvOk P V) {f nt N : Nat} {c : Code} {rs : Array ResultVar} (hf : FnAt P f nt c rs) {is : List Nat} {σ0 : St} (hW : W P N c σ0 (CallQ N τ)) (hk : GO P n Q x is.tail (clS2 V.tt x is rs σ τ)) (h0 : clS0 x is σ f nt = some σ0 := by kernel_rfl) (hN : σ.heap.length = N := by kernel_rfl) (h2 : (cl2 V.tt x is rs σ τ).isSome = true := by kernel_rfl) : GO P n Q x is σ := by
  obtain ⟨fn, k1, k2, k3, rfl, rfl⟩ := hf
  obtain ⟨id, ops, fs, rfl⟩ := GO_ex hk
  cases is with
  | nil => cases h0
  | cons i is =>
    have h3 : retAt V.tt fn ops i σ τ = some (clS2 V.tt (.pl (.region id ops false) fs) (i :: is) fn.results σ τ) := isSome_get h2 σ
    replace h0 : (match callAt ops i σ with
      | some (f', cvs) => cond (Nat.beq f' f && Nat.ble cvs.length fn.ntmps) (some (⟨fn.ntmps, ptmps 0 cvs, σ.heap⟩ : St)) none
      | none => none) = some σ0 := h0
    split at h0
    · rename_i f' cvs hc
      cases hb : (Nat.beq f' f && Nat.ble cvs.length fn.ntmps)
      · rw [hb] at h0; cases h0
      · rw [hb, cond_true] at h0
        simp only [Bool.and_eq_true] at hb
        have hff := Nat.eq_of_beq_eq_true hb.1
        rw [hff] at hc
        exact D_call hV i hc k1 k2 k3 hb.2 hN (Option.some.inj h0) hW h3 hk
    · cases h0
-- regions of no fixed order with walked calls
def phiX (P : Program) (n : Nat) (Q : Exit → St → Prop) : Nx → Exit → St → Prop
  | .pl _ fs => phiF P n Q fs
  | _ => fun _ _ => False
def isDr : Nx → Bool
  | .pl (.region _ _ true) _ => true
  | _ => false
theorem RA (hV : EnvOk P V) (N : Nat) (hc : isDr x = true) (hs : (opsX x).size = N) {L : Array Bool} (hL : Array.replicate N false = L) (h : WA P n (opsX x) N L (phiX P n Q x) σ) : Gw P n Q x σ := by
  unfold isDr at hc
  split at hc
  · rename_i id ops fs
    exact D_regA (c := .region id ops true) hV N rfl hs hL h
  · cases hc
def bsL : Nat → Nat → List Bool
  | 0, _ => []
  | k + 1, m => Nat.beq (Nat.mod m 2) 1 :: bsL k (Nat.div m 2)
def bs (k m : Nat) : Array Bool := (bsL k m).toArray
def stpS (V : Env) (x : Nx) (g : Nat) (hs : List (Nat × Hint)) (i : Nat) (t : Tell) (σ : St) : St := match stepD V (opsX x) g hs i t σ with
  | some (_, τ) => τ
  | none => σ
def cl2T (tt : TT) (x : Nx) (i : Nat) (rs : Array ResultVar) (t : Tell) (σ τ : St) : Option St := match cl2 tt x [i] rs σ τ with
  | some σ2 => tell t σ2
  | none => none
def clT (tt : TT) (x : Nx) (i : Nat) (rs : Array ResultVar) (t : Tell) (σ τ : St) : St := (cl2T tt x i rs t σ τ).getD σ
def StepTo (P : Program) (n : Nat) (ops : Array Oper) (fuel : Nat) (L : Array Bool) (Φ : Exit → St → Prop) (σ : St) (i : Nat) : Prop := ∃ L', L.setIfInBounds i true = L' ∧ WStep P n ops i σ (WA P n ops fuel L' Φ)
def AllN (p : Nat → Prop) : List Nat → Prop
  | [] => True
  | i :: r => p i ∧ AllN p r
theorem AllN.mem {p : Nat → Prop} : ∀ {l : List Nat}, AllN p l → ∀ i ∈ l, p i
  | i :: r, h, j, hj => (List.mem_cons.1 hj).elim (fun e => e ▸ h.1) (AllN.mem h.2 j)
theorem aN {p : Nat → Prop} : AllN p [] := trivial
theorem an {p : Nat → Prop} {i : Nat} {r : List Nat} (h : p i) (k : AllN p r) : AllN p (i :: r) := ⟨h, k⟩
theorem WAs {fuel : Nat} {L : Array Bool} {rs : List Nat} {Φ : Exit → St → Prop} (h : AllN (StepTo P n (opsX x) fuel L Φ σ) rs) (hr : Region.ready .any (opsX x) L = rs := by kernel_rfl) (hne : rs.isEmpty = false := by kernel_rfl) : WA P n (opsX x) (fuel + 1) L Φ σ :=
  WA_cons rs hr hne h.mem
theorem WE (hV : EnvOk P V) (g : Nat) (hs : List (Nat × Hint)) (i : Nat) (t : Tell) {fuel : Nat} {L L' : Array Bool} {Φ : Exit → St → Prop} {cs : List Prop} (hc : AllP cs) (hk : WA P n (opsX x) fuel L' Φ τ) (h : stepD V (opsX x) g hs i t σ = some (cs, τ) := by kernel_rfl) (hn : idN t.src n = true := by kernel_rfl) (hL : L.setIfInBounds i true = L' := by kernel_rfl) : StepTo P n (opsX x) fuel L Φ σ i :=
  ⟨L', hL, ws_ev hV g hs i t h hc hn hk⟩
theorem WC (hV : EnvOk P V) (i : Nat) (t : Tell) {fuel : Nat} {L L' : Array Bool} {Φ : Exit → St → Prop} {f nt N : Nat} {c : Code} {rs : Array ResultVar} (hf : FnAt P f nt c rs) {σ0 τ τ' : St} (hW : W P N c σ0 (CallQ N τ)) (hk : WA P n (opsX x) fuel L' Φ τ') (h0 : clS0 x [i] σ f nt = some σ0 := by kernel_rfl) (hN : σ.heap.length = N := by kernel_rfl) (h2 : cl2T V.tt x i rs t σ τ = some τ' := by kernel_rfl) (hid : idN t.src n = true := by kernel_rfl) (hL : L.setIfInBounds i true = L' := by kernel_rfl) : StepTo P n (opsX x) fuel L Φ σ i := by
  obtain ⟨fn, k1, k2, k3, rfl, rfl⟩ := hf
  refine ⟨L', hL, ?_⟩
  replace h0 : (match callAt (opsX x) i σ with
      | some (f', cvs) => cond (Nat.beq f' f && Nat.ble cvs.length fn.ntmps) (some (⟨fn.ntmps, ptmps 0 cvs, σ.heap⟩ : St)) none
      | none => none) = some σ0 := h0
  split at h0
  · rename_i f' cvs hc
    cases hb : (Nat.beq f' f && Nat.ble cvs.length fn.ntmps)
    · rw [hb] at h0; cases h0
    · rw [hb, cond_true] at h0
      simp only [Bool.and_eq_true] at hb
      have hff := Nat.eq_of_beq_eq_true hb.1
      rw [hff] at hc
      unfold cl2T at h2
      split at h2
      · rename_i σ2 h3
        exact ws_call hV i t hc k1 k2 k3 hb.2 hN (Option.some.inj h0) hW (show retAt V.tt fn (opsX x) i σ τ = some σ2 from h3) h2 hid hk
      · cases h2
  · cases h0
-- what reads no memory may be taken first
theorem letsOut_mono {Q Q' : Exit → Act → World → Prop} (hq : ∀ e a w, Q e a w → Q' e a w) (h : LetsOut Q) : LetsOut Q' := h.imp fun a h => h.imp fun w h => hq _ _ _ h
theorem letsOut_false (h : LetsOut fun _ _ _ => False) : False := h.elim fun _ h => h.elim fun _ h => h
theorem upon_q {o : Oper} {a : Act} {w : World} {K : Act → World → Prop} {Q Q' : Exit → Act → World → Prop} (hq : ∀ e a w, Q e a w → Q' e a w) (hh : o.wp P a w K Q) : o.wp P a w K Q' := by
  unfold Oper.wp at *
  generalize (execOp a.eval o).run P w = r at *
  cases r with
  | ok n w' =>
    cases n <;> simp only [Oper.upon] at hh ⊢ <;>
      first
        | exact hh
        | exact Calls.mono hh (fun e w'' he => by cases e <;> first | exact hq _ _ _ he | exact he | exact letsOut_mono hq he)
  | halt x w' => cases x <;> simp only [Oper.upon] at hh ⊢ <;> first | exact hh | exact hq _ _ _ hh
theorem wpOp_q {ops : Array Oper} {i : Nat} {a : Act} {w : World} {K : Act → World → Prop} {Q Q' : Exit → Act → World → Prop} (hq : ∀ e a w, Q e a w → Q' e a w) (hh : wpOp P ops Q i K a w) : wpOp P ops Q' i K a w := by
  unfold wpOp at *
  split
  · rename_i ho; simp only [ho] at hh; exact hh
  · rename_i o ho
    simp only [ho] at hh
    split
    · rename_i hw; simp only [hw, if_true] at hh; exact hh.imp (upon_q hq) (fun h => ⟨h.1, letsOut_mono hq h.2⟩)
    · rename_i hw; simp only [hw] at hh; exact hh
theorem wpAny_q {ops : Array Oper} {Q Q' : Exit → Act → World → Prop} (hq : ∀ e a w, Q e a w → Q' e a w) : ∀ {fuel : Nat} {L : Array Bool} {a : Act} {w : World}, wpAny P .any ops Q fuel L a w → wpAny P .any ops Q' fuel L a w
  | 0, _, _, _, h => ⟨h.1, hq _ _ _ h.2⟩
  | fuel + 1, _, _, _, h => ⟨fun e => hq _ _ _ (h.1 e), fun i hi => wpOp_mono (fun _ _ k => wpAny_q hq k) (wpOp_q hq (h.2 i hi))⟩
def isStill : Op → Bool
  | .move _ => true
  | .assign _ => true
  | .fieldAddr _ _ _ => true
  | .nilCheck _ => true
  | .extract _ _ => true
  | _ => false
theorem still_run {F0 : Nat → Prop} {w0 : World} {E : En} {a : Act} {w : World} {hn : Nat} {h : Hint} {o : Oper} {ws : List Wr} (hV : EnvOk P V) (hk : isStill o.op = true) (hI : Inv F0 w0 E σ a w) (hg : (sem V.tt V.Γ V.pr σ.nt hn h o).gives σ ws) : ∃ v, ∀ w', (execOp a.eval o).run P w' = .ok (.value v) w' := by
  unfold sem at hg
  cases hop : o.op <;> rw [hop] at hk hg <;> first | (cases hk; done) | skip
  case move x => exact ⟨a.eval x, fun w' => by simp [execOp, hop]⟩
  case assign x => exact ⟨a.eval x, fun w' => by simp [execOp, hop]⟩
  case fieldAddr s x f =>
    replace hg : (semFieldAddr V.tt σ.nt o.dst s x f).gives σ ws := hg
    replace hg := ev1_gives hI hg
    obtain ⟨v, hv, hg⟩ := hg
    have run : ∀ {i : TI} {off u b p : Nat}, V.tt.at s = some i → fst i.fields f = some (off, u) → a.eval x = .pointer (some ⟨b, p, none⟩) → ∀ w', (execOp a.eval o).run P w' = .ok (.value (.pointer (some ⟨b, p + off, none⟩))) w' := by
      intro i off u b p hi hf e w'
      rw [fst_eq] at hf
      obtain ⟨fs, fd, inf, e1, e2, e3, e4, e5, e6, e7, _⟩ := (TT.fact hV.ck hi).struct hf
      have hz : inf.size ≠ 0 := by omega
      simp [execOp, hop, e, Instr.fieldAt, run_underlying e1 w', e3, Instr.sureAddr, fieldPlace, sizeOf, typeInfo, e5, e6, hz, e4, Addr.add_plain]
    split at hg
    · rename_i i hi
      split at hg
      · rename_i o' u k off hf
        obtain ⟨b, hb, e⟩ := hv
        exact ⟨_, run hi hf e⟩
      · rename_i o' u k e j off hf
        obtain ⟨g, o2, n, c, h1, h2, h3, e'⟩ := hv
        exact ⟨_, run hi hf e'⟩
      · rename_i o' u e z off hf
        obtain ⟨b, o2, cs, e', h1⟩ := hv
        exact ⟨_, run hi hf e'⟩
      · exact absurd hg Rd.gives_fail
    · exact absurd hg Rd.gives_fail
  case nilCheck x =>
    replace hg : (semNilCheck σ.nt o.dst x).gives σ ws := hg
    replace hg := ev1_gives hI hg
    obtain ⟨v, hv, hg⟩ := hg
    split at hg
    · obtain ⟨b, _, e⟩ := hv
      exact ⟨a.eval x, fun w' => by simp [execOp, hop, e]⟩
    · obtain ⟨g, o', n, c, _, _, _, e⟩ := hv
      exact ⟨a.eval x, fun w' => by simp [execOp, hop, e]⟩
    · obtain ⟨b, o', cs, e, _⟩ := hv
      exact ⟨a.eval x, fun w' => by simp [execOp, hop, e]⟩
    · obtain ⟨p, q, e, _⟩ := hv
      exact ⟨a.eval x, fun w' => by simp [execOp, hop, e]⟩
    · exact absurd hg Rd.gives_fail
  case extract x j =>
    replace hg : (semExtract σ.nt o.dst x j).gives σ ws := hg
    replace hg := ev_gives hI hg
    obtain ⟨tv, hr, hg⟩ := hg
    split at hg
    · rename_i l
      split at hg
      · rename_i c hn
        rw [nth_eq] at hn
        obtain ⟨vs, e, hl⟩ := hr
        obtain ⟨v, hv, hc⟩ := hl.get hn
        have : vs[j]? = some v := by simpa using hv
        exact ⟨v, fun w' => by simp [execOp, hop, e, Instr.extract, this]⟩
      · exact absurd hg Rd.gives_fail
    · exact absurd hg Rd.gives_fail
def Q0 (Q : Exit → Act → World → Prop) : Exit → Act → World → Prop
  | .normal, a, w => Q .normal a w
  | _, _, _ => False
theorem still_yields {F0 : Nat → Prop} {w0 : World} {E : En} {a : Act} {w : World} {hn i : Nat} {ops : Array Oper} {hs : List (Nat × Hint)} {y : Res} {o : Oper} (hV : EnvOk P V) (hI : Inv F0 w0 E σ a w) (hhn : hn = σ.heap.length) (ho : ops[i]? = some o) (hk : isStill o.op = true) (h : opRes V σ.nt hn ops.toList hs i σ = some y) (hc : AllP y.cs) :
    ∃ v, Yields P ops o v a ∧ ∃ E', Inv F0 w0 E' (σ.aps y.ws) (a.put o.dst v) w ∧ Evo E w E' w := by
  have hop := ok_op (Q := fun _ _ _ => False) hV hI hhn h hc
  unfold wpOp at hop
  rw [ho] at hop
  simp only at hop
  unfold opRes at h
  rw [nth_eq, show ops.toList[i]? = some o by simpa using ho] at h
  simp only at h
  split at h
  · cases h
  · rename_i ps hgd
    have hw := gd_ok hI hgd
    rw [hw, if_pos rfl] at hop
    split at h
    · rename_i z hz
      obtain rfl := Option.some.inj h
      obtain ⟨h1, h2⟩ := fixR_ok hc
      obtain ⟨v, hrun⟩ := still_run hV hk hI (ws := z.ws) ⟨z, hz, h1, rfl⟩
      refine ⟨v, .inl ⟨hw, hrun⟩, ?_⟩
      rcases hop with hop | ⟨_, hop⟩
      · unfold Oper.wp at hop
        rw [hrun w] at hop
        exact hop
      · exact (letsOut_false hop).elim
    · cases h
  · rename_i ps hgd
    have hw := gd_ok hI hgd
    rw [hw] at hop
    simp only [Bool.false_eq_true, if_false] at hop
    exact ⟨undef, .inr ⟨hw, rfl⟩, hop⟩
def takeOk (ops : Array Oper) (L : Array Bool) (i : Nat) : Bool := (match ops[i]? with | some o => isStill o.op | none => false) && (Region.noSelect ops && (Region.free .any ops L i && (Region.ready .any ops L).contains i))
theorem WT (hV : EnvOk P V) (hs : List (Nat × Hint)) (i : Nat) (t : Tell) {fuel : Nat} {L L' : Array Bool} {Φ : Exit → St → Prop} {cs : List Prop} (hc : AllP cs) (hk : WA P n (opsX x) fuel L' Φ τ) (h : stepD V (opsX x) 0 hs i t σ = some (cs, τ) := by kernel_rfl) (hn : idN t.src n = true := by kernel_rfl) (hL : L.setIfInBounds i true = L' := by kernel_rfl) (hT : takeOk (opsX x) L i = true := by kernel_rfl) : WA P n (opsX x) (fuel + 1) L Φ σ := by
  subst hL
  unfold takeOk at hT
  simp only [Bool.and_eq_true] at hT
  obtain ⟨h1, h2, h3, h4⟩ := hT
  split at h1
  · rename_i o ho
    obtain ⟨τ1, hev, ht⟩ : ∃ τ1, evD V (opsX x) 0 hs [i] σ = some (cs, τ1) ∧ tell t τ1 = some τ := by
      unfold stepD at h
      split at h
      · rename_i cs1 τ1 h1
        split at h
        · rename_i τ2 h2
          simp only [Option.some.injEq, Prod.mk.injEq] at h
          obtain ⟨rfl, rfl⟩ := h
          exact ⟨_, h1, h2⟩
        · cases h
      · cases h
    intro F0 w0 E a w Q hI hQ
    unfold evD at hev
    split at hev
    · rename_i l τ2 hl
      simp only [Option.some.injEq, Prod.mk.injEq] at hev
      obtain ⟨rfl, rfl⟩ := hev
      unfold evalL at hl
      split at hl
      · cases hl
      · rename_i y hy
        simp only [evalL, Option.some.injEq, Prod.mk.injEq] at hl
        obtain ⟨rfl, rfl⟩ := hl
        obtain ⟨v, hyd, E', hI', he⟩ := still_yields hV (gro_inv hI 0) rfl ho h1 hy (AllP.app.1 hc).1
        obtain ⟨E'', i', v'⟩ := tell_inv hn hI' ht
        refine wpAny_q (Q := Q0 Q) (fun e a w hq => by cases e <;> first | exact hq | exact hq.elim) (wpAny_take ho h2 h3 h4 (fun c a w hq => hq.elim) hyd ?_)
        exact hk F0 w0 E'' _ w _ i' fun a'' w'' E3 σ'' k1 k2 k3 => hQ a'' w'' E3 σ'' k1 k2 (((EvoN.of he).trans v').trans k3)
    · cases hev
  · cases h1
theorem RAn (h : isPl x = true) (hk : Gw P n Q (nx x) σ) : phiX P n Q x .normal σ := by
  cases x with
  | pl c fs => exact go_ok (x := .nm fs) hk
  | _ => cases h
-- shorter forms: the next state tells the step
theorem Le {tt : TT} {rs : Array ResultVar} {s : Spec} {r : Tup s.rs} {a : Option (Tup s.rs)} (H : a = some r) (h : retX x tt rs σ s = a := by kernel_rfl) : Gw P n (Qr tt rs s r) x σ := Lf (h.trans H)
theorem stp_some {g i : Nat} {hs : List (Nat × Hint)} {t : Tell} {ops : Array Oper} {cs : List Prop} (h : (stepD V ops g hs i t σ).map (·.1) = some cs) : stepD V ops g hs i t σ = some (cs, match stepD V ops g hs i t σ with | some (_, τ) => τ | none => σ) := by
  cases hq : stepD V ops g hs i t σ with
  | none => rw [hq] at h; cases h
  | some q => rw [hq] at h; obtain rfl := Option.some.inj h; rfl
theorem Wt {hs : List (Nat × Hint)} {i : Nat} {t : Tell} {fuel : Nat} {L L' : Array Bool} {Φ : Exit → St → Prop} {cs : List Prop} (hc : AllP cs) (hk : WA P n (opsX x) fuel L' Φ (stpS V x 0 hs i t σ)) (hV : EnvOk P V := by exact V_ok) (h : (stepD V (opsX x) 0 hs i t σ).map (·.1) = some cs := by kernel_rfl) (hn : idN t.src n = true := by kernel_rfl) (hL : L.setIfInBounds i true = L' := by kernel_rfl) (hT : takeOk (opsX x) L i = true := by kernel_rfl) : WA P n (opsX x) (fuel + 1) L Φ σ :=
  WT hV hs i t hc hk (stp_some h) hn hL hT
theorem We {g : Nat} {hs : List (Nat × Hint)} {i : Nat} {t : Tell} {fuel : Nat} {L L' : Array Bool} {Φ : Exit → St → Prop} {cs : List Prop} (hc : AllP cs) (hk : WA P n (opsX x) fuel L' Φ (stpS V x g hs i t σ)) (hV : EnvOk P V := by exact V_ok) (h : (stepD V (opsX x) g hs i t σ).map (·.1) = some cs := by kernel_rfl) (hn : idN t.src n = true := by kernel_rfl) (hL : L.setIfInBounds i true = L' := by kernel_rfl) : StepTo P n (opsX x) fuel L Φ σ i :=
  WE hV g hs i t hc hk (stp_some h) hn hL
theorem Wc (hV : EnvOk P V) {i : Nat} {t : Tell} {fuel : Nat} {L L' : Array Bool} {Φ : Exit → St → Prop} {f nt N : Nat} {c : Code} {rs : Array ResultVar} (hf : FnAt P f nt c rs) {σ0 τ : St} (hW : W P N c σ0 (CallQ N τ)) (hk : WA P n (opsX x) fuel L' Φ (clT V.tt x i rs t σ τ)) (h0 : clS0 x [i] σ f nt = some σ0 := by kernel_rfl) (hN : σ.heap.length = N := by kernel_rfl) (h2 : (cl2T V.tt x i rs t σ τ).isSome = true := by kernel_rfl) (hid : idN t.src n = true := by kernel_rfl) (hL : L.setIfInBounds i true = L' := by kernel_rfl) : StepTo P n (opsX x) fuel L Φ σ i :=
  WC hV i t hf hW hk h0 hN (isSome_get h2 σ) hid hL
theorem Wss {fuel : Nat} {L : Array Bool} {rs : List Nat} {Φ : Exit → St → Prop} (h : AllN (StepTo P n (opsX x) fuel L Φ σ) rs) (hr : Region.ready .any (opsX x) L = rs := by kernel_rfl) (hne : rs.isEmpty = false := by kernel_rfl) : WA P n (opsX x) (fuel + 1) L Φ σ := WAs h hr hne
end
end Go.Proofs.YtkhjemahenkdiaaGreatDoor.V
