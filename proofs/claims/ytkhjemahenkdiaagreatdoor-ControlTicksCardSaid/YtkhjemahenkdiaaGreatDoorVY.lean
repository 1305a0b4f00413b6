/- Calls that are walked where they stand: closures, and functions that answer with what the caller then owns. -/
import Derived.Test.YtkhjemahenkdiaaGreatDoorVU
namespace Go.Proofs.YtkhjemahenkdiaaGreatDoor.V
open Go Go.RowKit
set_option linter.unusedVariables false
set_option linter.unusedSimpArgs false
def Code.ops : Code → Array Oper
  | .region _ ops _ => ops
  | _ => #[]
def isReg : Code → Bool
  | .region _ _ false => true
  | _ => false
section
variable {P : Program} {V : Env} {F0 : Nat → Prop} {w0 : World} {E : En} {σ τ : St} {a : Act} {w : World} {tt : TT}
def evS (σ : St) : Operand → Option CV
  | .tmp t => match lk σ.tmps t with
    | .cv c => some c
    | _ => none
  | .const v => match constTV v with
    | .cv c => some c
    | _ => none
  | .func f => some (.one (.fn f [] []))
  | .global g => some (.one (.gptr g))
theorem evS_ok (hI : Inv F0 w0 E σ a w) {x : Operand} {c : CV} (h : evS σ x = some c) : RepC E w (a.eval x) c := by
  cases x with
  | tmp t =>
    have h1 := hI.tmp t
    simp only [evS] at h
    split at h
    · rename_i c' hc; rw [hc] at h1; obtain rfl := Option.some.inj h; exact h1
    · cases h
  | const v =>
    have h1 := constTV_ok E w v
    simp only [evS] at h
    split at h
    · rename_i c' hc; rw [hc] at h1; obtain rfl := Option.some.inj h; exact h1
    · cases h
  | func f =>
    obtain rfl := Option.some.inj h
    exact (⟨#[], #[], rfl, trivial, trivial⟩ : RepA E w (a.eval (.func f)) (.fn f [] []))
  | global g =>
    obtain rfl := Option.some.inj h
    exact (rfl : RepA E w (a.eval (.global g)) (.gptr g))
def evSs (σ : St) : List Operand → Option (List CV)
  | [] => some []
  | x :: r => match evS σ x, evSs σ r with
    | some c, some l => some (c :: l)
    | _, _ => none
theorem evSs_ok (hI : Inv F0 w0 E σ a w) : ∀ {xs : List Operand} {l : List CV}, evSs σ xs = some l → All2 (RepC E w) (xs.map a.eval) l
  | [], l, h => by obtain rfl := Option.some.inj h; trivial
  | x :: r, l, h => by
    unfold evSs at h
    split at h
    · rename_i c l' h1 h2
      obtain rfl := Option.some.inj h
      exact ⟨evS_ok hI h1, evSs_ok hI h2⟩
    · cases h
def ptrC : List (Nat × Nat) → List CV
  | [] => []
  | x :: r => .one (.ptr x.1 x.2) :: ptrC r
theorem ptrC_ok : ∀ {vs : List Value} {l : List (Nat × Nat)}, All2 (PtrOk E) vs l → All2 (RepC E w) vs (ptrC l)
  | [], [], _ => trivial
  | v :: vs, x :: l, h => ⟨h.1, ptrC_ok h.2⟩
def calI (σ : St) : Callee → Option (Nat × List CV × List CV)
  | .value (.func f) => some (f, [], [])
  | .value (.tmp t) => match lk σ.tmps t with
    | .cv (.one (.fn f fs cs)) => some (f, ptrC fs, ptrC cs)
    | _ => none
  | _ => none
def mkI : List CV → TV
  | [c] => .cv c
  | l => .tup l
def resI (tt : TT) (σ : St) : List ResultVar → Option (List CV)
  | [] => some []
  | .tmp t :: r => match lk σ.tmps t, resI tt σ r with
    | .cv c, some l => some (c :: l)
    | _, _ => none
  | .cell t ty :: r => match lk σ.tmps t, tt.at ty, resI tt σ r with
    | .cv (.one (.ptr k off)), some i, some l => match (hg σ.heap k).1 with
      | .box n => cond (Nat.ble (off + i.n) n) (match mkC i.agg (((hg σ.heap k).2.drop off).take i.n) with
        | some c => some (c :: l)
        | none => none) none
      | _ => none
    | _, _, _ => none
theorem resI_ok (hck : tt.ck P = true) (hI : Inv F0 w0 E σ a w) : ∀ {rs : List ResultVar} {l : List CV}, resI tt σ rs = some l → ∃ vs : List Value, (rs.mapM (resF a.tmps)).run P w = .ok vs w ∧ All2 (RepC E w) vs l
  | [], l, h => by
    obtain rfl := Option.some.inj h
    exact ⟨[], by simp, trivial⟩
  | .tmp t :: r, l, h => by
    unfold resI at h
    split at h
    · rename_i c l' hc hl
      obtain rfl := Option.some.inj h
      obtain ⟨vs, hr, hvs⟩ := resI_ok hck hI hl
      have h1 := hI.tmp t
      rw [hc] at h1
      refine ⟨a.tmps.getD t undef :: vs, ?_, h1, hvs⟩
      rw [List.mapM_cons]
      simp only [resF, Sem.run_bind, Sem.run_pure, Result.andThen_ok, hr]
    · cases h
  | .cell t ty :: r, l, h => by
    unfold resI at h
    split at h
    · rename_i k off i l' hc hi hl
      split at h
      · rename_i n hs
        cases hb : Nat.ble (off + i.n) n
        · rw [hb] at h; cases h
        · rw [hb, cond_true] at h
          have hb := Nat.le_of_ble_eq_true hb
          split at h
          · rename_i c hm
            obtain rfl := Option.some.inj h
            obtain ⟨vs, hr, hvs⟩ := resI_ok hck hI hl
            have h1 := hI.tmp t
            rw [hc] at h1
            obtain ⟨b, hβ, e⟩ := h1
            have hk := hI.heap.slot k
            rw [hs] at hk
            obtain ⟨b', cs, ty', g1, g2, g3, g4⟩ := hk
            rw [hβ] at g1
            obtain rfl := Option.some.inj g1
            have hlen := g4.len
            rw [g3] at hlen
            have hcut := cut_cells (w := w) (b := b) (o := 0) (p := off) (n := i.n) (cs := cs.toList) rfl (fun j u hj => by rw [Nat.zero_add, cell_of_row _ _ _ _ _ _ g2]; simpa using hj)
            have hrep : RepL E w ((cs.toList.drop off).take i.n) (((hg σ.heap k).2.drop off).take i.n) := (g4.drop _).take _
            have hvl : ((cs.toList.drop off).take i.n).length = i.n := by rw [List.length_take, List.length_drop, hlen]; omega
            obtain ⟨u, hu, k1, k2⟩ := run_loadV (w := w) (TT.fact hck hi) hvl (by simpa using hcut) (fun ha => by
              have := mkC_one hm ha
              rw [← hvl, hrep.len, this])
            refine ⟨u :: vs, ?_, mkC_ok hm hrep k1 k2, hvs⟩
            have e : a.tmps.getD t undef = .pointer (some ⟨b, off, none⟩) := e
            rw [List.mapM_cons]
            simp only [resF, Sem.run_bind, e, asAddr, Sem.run_pure, Result.andThen_ok, hu, hr]
          · cases h
      · cases h
    · cases h
/-- What a called function's code is to end in: a state that is told as τ. -/
def CallQ (n : Nat) (τ : St) : Exit → St → Prop := fun e σ' => (e = .normal ∨ e = .ret) ∧ ∃ t, tell t σ' = some τ ∧ idN t.src n = true
theorem cq_n {n : Nat} (t : Tell) (h : tell t σ = some τ) (hn : idN t.src n = true) : CallQ n τ .normal σ := ⟨.inl rfl, t, h, hn⟩
theorem cq_r {n : Nat} (t : Tell) (h : tell t σ = some τ) (hn : idN t.src n = true) : CallQ n τ .ret σ := ⟨.inr rfl, t, h, hn⟩
theorem evo_of {h : Heap} {E E' : En} {w' : World} (hh : InvH F0 w0 E h w) (hv : EvoN h.length E w E' w') : Evo E w E' w' := by
  have hnone : ∀ k, h.length ≤ k → E.β k = none ∧ E.γ k = none := fun k hk => by
    have := hh.slot k
    rw [hg_eq, List.getElem?_eq_none hk] at this
    exact this
  refine ⟨fun k b e => hv.β k b ?_ e, fun k v e => hv.γ k v ?_ e, hv.F, hv.heap⟩
  · exact Nat.lt_of_not_le fun hk => by rw [(hnone k hk).1] at e; cases e
  · exact Nat.lt_of_not_le fun hk => by rw [(hnone k hk).2] at e; cases e
/-- A call whose code is walked in the caller's heap. -/
theorem ok_inline (hck : V.tt.ck P = true) {ops : Array Oper} {i : Nat} {o : Oper} {ps : List Pl} {cl : Callee} {args : Array Operand} {ts : Array Nat} {f : Nat} {fs cs l lr : List CV} {fn : Func} {c : Code} {Q : Exit → Act → World → Prop}
    (hoi : ops[i]? = some o) (hg : gd ops.toList σ o = some (true, ps)) (ho : o.op = .call { callee := cl, args := args, argTypes := ts }) (hcl : calI σ cl = some (f, fs, cs)) (hl : evSs σ args.toList = some l)
    (hf : P.funcs[f]? = some fn) (hb : fn.body = some c) (hn : fn.name ≠ "runtime.NumGoroutine") (hsz : (fs ++ l ++ cs).length ≤ fn.ntmps)
    (hI : Inv F0 w0 E σ a w) (hW : W P σ.heap.length c ⟨fn.ntmps, ptmps 0 (fs ++ l ++ cs), σ.heap⟩ (CallQ σ.heap.length τ)) (hr : resI V.tt τ fn.results.toList = some lr) (hd : ∀ t, o.dst = some t → t < σ.nt) :
    wpOp P ops Q i (fun a' w' => ∃ E', Inv F0 w0 E' ⟨σ.nt, match o.dst with | some t => pt σ.tmps t (mkI lr) | none => σ.tmps, τ.heap⟩ a' w' ∧ Evo E w E' w') a w := by
  have hargs := evSs_ok hI hl
  obtain ⟨vf, vc, hvf, hvc, hrun⟩ : ∃ vf vc : List Value, All2 (RepC E w) vf fs ∧ All2 (RepC E w) vc cs ∧ (execOp a.eval o).run P w = .ok (.enter f (vf.toArray ++ args.map a.eval ++ vc.toArray)) w := by
    have henter : ∀ args w, (callFunc f args).run P w = .ok (.enter f args) w := fun args w => by simp [callFunc, hf, hb, hn]
    unfold calI at hcl
    split at hcl
    · simp only [Option.some.injEq, Prod.mk.injEq] at hcl
      obtain ⟨rfl, rfl, rfl⟩ := hcl
      refine ⟨[], [], trivial, trivial, ?_⟩
      have := henter (args.map a.eval) w
      simp [execOp, ho, resolve, Act.eval, Deferred.ofValue, invoke, this]
    · rename_i t
      have h1 := hI.tmp t
      split at hcl
      · rename_i f' fs' cs' hlk
        simp only [Option.some.injEq, Prod.mk.injEq] at hcl
        obtain ⟨rfl, rfl, rfl⟩ := hcl
        rw [hlk] at h1
        obtain ⟨p, q, e, h2, h3⟩ := h1
        have e : a.tmps.getD t undef = .func (.func f') p q := e
        refine ⟨p.toList, q.toList, ptrC_ok h2, ptrC_ok h3, ?_⟩
        simp [execOp, ho, resolve, Act.eval, Deferred.ofValue, invoke, e, henter]
      · cases hcl
    · cases hcl
  have hall : All2 (RepC E w) (vf.toArray ++ args.map a.eval ++ vc.toArray).toList (fs ++ l ++ cs) := by
    simpa using (hvf.app (by simpa using hargs)).app hvc
  generalize hAV : (vf.toArray ++ args.map a.eval ++ vc.toArray) = AV at hrun hall
  have hAs : AV.size = (fs ++ l ++ cs).length := by have := hall.len; simpa using this
  have hcalls : Calls P f AV w fun e w' => ∃ v, e = .returned v ∧ ∃ E', InvH F0 w0 E' τ.heap w' ∧ EvoN σ.heap.length E w E' w' ∧ RepT E' w' v (mkI lr) := by
    refine calls_of_wp hf hb (wp_mono (hW F0 w0 E { tmps := AV ++ Array.replicate (fn.ntmps - AV.size) undef, defers := [] } w ⟨?_, rfl, fun t => ?_, hI.heap⟩) ?_)
    · simp; omega
    · refine ptmps_lk hall (fun t => (AV ++ Array.replicate (fn.ntmps - AV.size) undef).getD t undef) (fun j v hv => ?_)
      have hj : AV[j]? = some v := by simpa using hv
      have hjl := (Array.getElem?_eq_some_iff.1 hj).1
      simp only [Nat.zero_add, Array.getD_eq_getD_getElem?]
      rw [Array.getElem?_append_left hjl, hj]
      rfl
    · rintro e a' w' ⟨σ', E1, ⟨he, t, ht, hid⟩, hI1, hev1⟩
      obtain ⟨E2, hI2, hev2⟩ := tell_inv hid hI1 ht
      obtain ⟨vs, hrn, hvs⟩ := resI_ok hck hI2 hr
      have hfin : ∃ v, (results fn a'.tmps).run P w' = .ok v w' ∧ RepT E2 w' v (mkI lr) := by
        rw [results_eq, Sem.run_bind, Array.mapM_eq_mapM_toList, Sem.run_map, hrn]
        simp only [Result.andThen_ok, Sem.run_pure]
        refine ⟨_, rfl, ?_⟩
        match vs, lr, hvs with
        | [], [], _ => exact ⟨#[], rfl, trivial⟩
        | [v], [c], hres => exact hres.1
        | v :: v' :: vs, c :: c' :: L, hres => exact ⟨(v :: v' :: vs).toArray, by simp, by simpa using hres⟩
      obtain ⟨v, hv1, hv2⟩ := hfin
      have hR : ∃ v, (results fn a'.tmps).run P w' = .ok v w' ∧ ∃ v', Ending.returned v = .returned v' ∧ ∃ E', InvH F0 w0 E' τ.heap w' ∧ EvoN σ.heap.length E w E' w' ∧ RepT E' w' v' (mkI lr) := ⟨v, hv1, v, rfl, E2, hI2.heap, hev1.trans hev2, hv2⟩
      rcases he with rfl | rfl
      · exact ⟨hI2.df, hR⟩
      · exact ⟨hI2.df, hR⟩
  unfold wpOp
  rw [hoi]
  simp only
  have hw : Region.wanted o (yielded ops a.tmps) = true := gd_ok hI hg
  rw [hw, if_pos rfl]
  refine .inl ?_
  unfold Oper.wp
  rw [hrun]
  simp only [Oper.upon]
  refine hcalls.mono ?_
  rintro e w' ⟨v, rfl, E', hI', hev, hv⟩
  have he := evo_of hI.heap hev
  have hI2 : Inv F0 w0 E' ⟨σ.nt, σ.tmps, τ.heap⟩ a w' := ⟨hI.nt, hI.df, fun t => (hI.tmp t).evo he, hI'⟩
  refine ⟨E', ?_, he⟩
  cases hdst : o.dst with
  | none => exact hI2
  | some t => exact hI2.put (hd t hdst) hv
/-- A call of a function that is walked with nothing of the caller's. -/
theorem calls_W (hck : V.tt.ck P = true) {f : Nat} {fn : Func} {c : Code} {cvs lr : List CV} (hf : P.funcs[f]? = some fn) (hb : fn.body = some c) (hsz : cvs.length ≤ fn.ntmps) (hW : W P 0 c ⟨fn.ntmps, ptmps 0 cvs, []⟩ (CallQ 0 τ)) (hr : resI V.tt τ fn.results.toList = some lr)
    {F : Nat → Prop} {w : World} {args : Array Value} (hF : Globs F w) (hargs : All2 (RepC (E0 F) w) args.toList cvs) : Calls P f args w fun e w' => ∃ v, e = .returned v ∧ ∃ E', InvH F w E' τ.heap w' ∧ RepT E' w' v (mkI lr) := by
  have hAs : args.size = cvs.length := by have := hargs.len; simpa using this
  refine calls_of_wp hf hb (wp_mono (hW F w (E0 F) { tmps := args ++ Array.replicate (fn.ntmps - args.size) undef, defers := [] } w ⟨?_, rfl, fun t => ?_, ⟨Below.refl _ _, fun k => ⟨rfl, rfl⟩, fun k b hl => hl.elim, fun k k' b hl => hl.elim, hF.1, fun b hb => .inl hb, fun b hb => hb, hF⟩⟩) ?_)
  · simp; omega
  · refine ptmps_lk hargs (fun t => (args ++ Array.replicate (fn.ntmps - args.size) undef).getD t undef) (fun j v hv => ?_)
    have hj : args[j]? = some v := by simpa using hv
    have hjl := (Array.getElem?_eq_some_iff.1 hj).1
    simp only [Nat.zero_add, Array.getD_eq_getD_getElem?]
    rw [Array.getElem?_append_left hjl, hj]
    rfl
  · rintro e a' w' ⟨σ', E1, ⟨he, t, ht, hid⟩, hI1, hev1⟩
    obtain ⟨E2, hI2, hev2⟩ := tell_inv hid hI1 ht
    obtain ⟨vs, hrn, hvs⟩ := resI_ok hck hI2 hr
    have hfin : ∃ v, (results fn a'.tmps).run P w' = .ok v w' ∧ RepT E2 w' v (mkI lr) := by
      rw [results_eq, Sem.run_bind, Array.mapM_eq_mapM_toList, Sem.run_map, hrn]
      simp only [Result.andThen_ok, Sem.run_pure]
      refine ⟨_, rfl, ?_⟩
      match vs, lr, hvs with
      | [], [], _ => exact ⟨#[], rfl, trivial⟩
      | [v], [c], hres => exact hres.1
      | v :: v' :: vs, c :: c' :: L, hres => exact ⟨(v :: v' :: vs).toArray, by simp, by simpa using hres⟩
    obtain ⟨v, hv1, hv2⟩ := hfin
    have hR : ∃ v, (results fn a'.tmps).run P w' = .ok v w' ∧ ∃ v', Ending.returned v = .returned v' ∧ ∃ E', InvH F w E' τ.heap w' ∧ RepT E' w' v' (mkI lr) := ⟨v, hv1, v, rfl, E2, hI2.heap, hv2⟩
    rcases he with rfl | rfl
    · exact ⟨hI2.df, hR⟩
    · exact ⟨hI2.df, hR⟩
-- what is left of a region
def WO (P : Program) (n : Nat) (ops : Array Oper) (is : List Nat) (σ : St) (Φ : Exit → St → Prop) : Prop := ∀ F0 w0 E a w Q, Inv F0 w0 E σ a w →
  (∀ a' w' E' σ', Φ .normal σ' → Inv F0 w0 E' σ' a' w' → EvoN n E w E' w' → Q .normal a' w') → wpOps P ops Q is a w
variable {n : Nat} {Φ : Exit → St → Prop} {ops : Array Oper}
theorem WO_nil (h : Φ .normal σ) : WO P n ops [] σ Φ := fun F0 w0 E a w Q hI hQ => hQ _ _ E σ h hI (.of (Evo.refl E w))
theorem WO_tell {is : List Nat} (t : Tell) (h : tell t σ = some τ) (hn : idN t.src n = true) (hW : WO P n ops is τ Φ) : WO P n ops is σ Φ := fun F0 w0 E a w Q hI hQ => by
  obtain ⟨E', i, v⟩ := tell_inv hn hI h
  exact hW F0 w0 E' a w Q i fun a' w' E'' σ' h1 h2 h3 => hQ a' w' E'' σ' h1 h2 (v.trans h3)
def evD (V : Env) (ops : Array Oper) (g : Nat) (hs : List (Nat × Hint)) (is : List Nat) (σ : St) : Option (List Prop × St) := match evalL V σ.nt (gro g σ).heap.length ops.toList hs is (gro g σ) with
  | some (l, τ) => some (conds l, τ)
  | none => none
theorem D_ev (hV : EnvOk P V) (g : Nat) (hs : List (Nat × Hint)) (is1 is2 : List Nat) {is : List Nat} (he : is = is1 ++ is2) {cs : List Prop} (h : evD V ops g hs is1 σ = some (cs, τ)) (hc : AllP cs) (hk : WO P n ops is2 τ Φ) : WO P n ops is σ Φ := by
  subst he
  unfold evD at h
  split at h
  · rename_i l τ' hl
    simp only [Option.some.injEq, Prod.mk.injEq] at h
    obtain ⟨rfl, rfl⟩ := h
    intro F0 w0 E a w Q hI hQ
    have happ : ∀ (is1 is2 : List Nat) (a : Act) (w : World), wpOps P ops Q (is1 ++ is2) a w = wpOps P ops Q is1 a w ∨ True := fun _ _ _ _ => .inr trivial
    have key : ∀ {is1 : List Nat} {σ τ : St} {l : List (Nat × Res)} {E : En} {a : Act} {w : World} {hn : Nat}, Inv F0 w0 E σ a w → hn = σ.heap.length → evalL V σ.nt hn ops.toList hs is1 σ = some (l, τ) → AllP (conds l) →
        (∀ a' w', Then F0 w0 E w τ a' w' → wpOps P ops Q is2 a' w') → wpOps P ops Q (is1 ++ is2) a w := by
      intro is1
      induction is1 with
      | nil =>
        intro σ τ l E a w hn hI hhn h hc hQ
        simp only [evalL, Option.some.injEq, Prod.mk.injEq] at h
        obtain ⟨_, rfl⟩ := h
        exact hQ _ _ ⟨E, hI, Evo.refl E w⟩
      | cons i is1 ih =>
        intro σ τ l E a w hn hI hhn h hc hQ
        unfold evalL at h
        split at h
        · cases h
        · rename_i x hx
          split at h
          · cases h
          · rename_i l' τ' hl'
            simp only [Option.some.injEq, Prod.mk.injEq] at h
            obtain ⟨rfl, rfl⟩ := h
            obtain ⟨hc1, hc2⟩ := AllP.app.1 hc
            rw [List.cons_append, wpOps_cons]
            refine wpOp_mono (fun a' w' hT => ?_) (ok_op hV hI hhn hx hc1)
            obtain ⟨E', hI', he⟩ := hT
            refine ih (hn := hn) hI' (by rw [hhn, aps_len]) (by rw [aps_nt]; exact hl') hc2 (fun a'' w'' hT' => hQ _ _ ?_)
            obtain ⟨E'', hI'', he'⟩ := hT'
            exact ⟨E'', hI'', he.trans he'⟩
    exact key (gro_inv hI g) rfl hl hc (fun a' w' ⟨E', hI', he⟩ => hk F0 w0 E' a' w' Q hI' fun a'' w'' E'' σ' h1 h2 h3 => hQ a'' w'' E'' σ' h1 h2 ((EvoN.of he).trans h3))
  · cases h
def callAt (ops : Array Oper) (i : Nat) (σ : St) : Option (Nat × List CV) := match nth ops.toList i with
  | some o => match gd ops.toList σ o, o.op with
    | some (true, _), .call c => match calI σ c.callee, evSs σ c.args.toList with
      | some (f, fs, cs), some l => cond (match o.dst with | some t => Nat.blt t σ.nt | none => true) (some (f, fs ++ l ++ cs)) none
      | _, _ => none
    | _, _ => none
  | none => none
def retAt (tt : TT) (fn : Func) (ops : Array Oper) (i : Nat) (σ τ : St) : Option St := match nth ops.toList i, resI tt τ fn.results.toList with
  | some o, some lr => some ⟨σ.nt, match o.dst with | some t => pt σ.tmps t (mkI lr) | none => σ.tmps, τ.heap⟩
  | _, _ => none
theorem D_call (hV : EnvOk P V) (i : Nat) {is : List Nat} {f N : Nat} {cvs : List CV} {fn : Func} {c : Code} {σ0 σ2 : St} (h : callAt ops i σ = some (f, cvs)) (hf : P.funcs[f]? = some fn) (hb : fn.body = some c) (hn : fn.name ≠ "runtime.NumGoroutine") (hsz : Nat.ble cvs.length fn.ntmps = true)
    (hN : σ.heap.length = N) (h0 : (⟨fn.ntmps, ptmps 0 cvs, σ.heap⟩ : St) = σ0) (hW : W P N c σ0 (CallQ N τ)) (hr : retAt V.tt fn ops i σ τ = some σ2) (hk : WO P n ops is σ2 Φ) : WO P n ops (i :: is) σ Φ := by
  intro F0 w0 E a w Q hI hQ
  subst hN h0
  unfold callAt at h
  split at h
  · rename_i o ho
    rw [nth_eq] at ho
    have hoi : ops[i]? = some o := by simpa using ho
    split at h
    · rename_i c' hg hop
      split at h
      · rename_i f' fs cs l hcl hl
        cases hd : (match o.dst with | some t => Nat.blt t σ.nt | none => true)
        · rw [hd] at h; cases h
        · rw [hd, cond_true] at h
          simp only [Option.some.injEq, Prod.mk.injEq] at h
          obtain ⟨rfl, rfl⟩ := h
          unfold retAt at hr
          rw [nth_eq, ho] at hr
          split at hr
          · rename_i o' lr ho' hlr
            obtain rfl := Option.some.inj ho'
            obtain rfl := Option.some.inj hr
            rw [wpOps_cons]
            refine wpOp_mono (fun a' w' ⟨E', hI', he⟩ => ?_) (ok_inline (V := V) hV.ck hoi hg (cl := c'.callee) (args := c'.args) (ts := c'.argTypes) hop hcl hl hf hb hn (Nat.le_of_ble_eq_true hsz) hI hW hlr (fun t ht => by rw [ht] at hd; exact Nat.le_of_ble_eq_true hd))
            exact hk F0 w0 E' a' w' Q hI' fun a'' w'' E'' σ' h1 h2 h3 => hQ a'' w'' E'' σ' h1 h2 ((EvoN.of he).trans h3)
          · cases hr
      · cases h
    · cases h
  · cases h
theorem D_regI {c : Code} (is : List Nat) (hc : isReg c = true) (hr : List.range (Code.ops c).size = is) (h : WO P n (Code.ops c) is σ Φ) : W P n c σ Φ := by
  subst hr
  match c, hc, h with
  | .region id ops false, _, h =>
    intro F0 w0 E a w hI
    exact wp_region (h F0 w0 E a w _ hI fun a' w' E' σ' h1 h2 h3 => ⟨σ', E', h1, h2, h3⟩)
-- a region of no fixed order, by what has come up
def WStep (P : Program) (n : Nat) (ops : Array Oper) (i : Nat) (σ : St) (Ψ : St → Prop) : Prop := ∀ F0 w0 E a w Q, Inv F0 w0 E σ a w → wpOp P ops Q i (fun a' w' => ∃ σ' E', Ψ σ' ∧ Inv F0 w0 E' σ' a' w' ∧ EvoN n E w E' w') a w
def WA (P : Program) (n : Nat) (ops : Array Oper) (fuel : Nat) (listed : Array Bool) (Φ : Exit → St → Prop) (σ : St) : Prop := ∀ F0 w0 E a w Q, Inv F0 w0 E σ a w →
  (∀ a' w' E' σ', Φ .normal σ' → Inv F0 w0 E' σ' a' w' → EvoN n E w E' w' → Q .normal a' w') → wpAny P .any ops Q fuel listed a w
def stepD (V : Env) (ops : Array Oper) (g : Nat) (hs : List (Nat × Hint)) (i : Nat) (t : Tell) (σ : St) : Option (List Prop × St) := match evD V ops g hs [i] σ with
  | some (cs, τ) => match tell t τ with
    | some τ' => some (cs, τ')
    | none => none
  | none => none
theorem ws_ev (hV : EnvOk P V) (g : Nat) (hs : List (Nat × Hint)) (i : Nat) (t : Tell) {Ψ : St → Prop} {cs : List Prop} {τ' : St} (h : stepD V ops g hs i t σ = some (cs, τ')) (hc : AllP cs) (hn : idN t.src n = true) (hΨ : Ψ τ') : WStep P n ops i σ Ψ := by
  obtain ⟨τ, h, ht⟩ : ∃ τ, evD V ops g hs [i] σ = some (cs, τ) ∧ tell t τ = some τ' := by
    unfold stepD at h
    split at h
    · rename_i cs1 τ1 h1
      split at h
      · rename_i τ2 h2
        simp only [Option.some.injEq, Prod.mk.injEq] at h
        obtain ⟨rfl, rfl⟩ := h
        exact ⟨_, h1, h2⟩
      · cases h
    · cases h
  intro F0 w0 E a w Q hI
  unfold evD at h
  split at h
  · rename_i l τ1 hl
    simp only [Option.some.injEq, Prod.mk.injEq] at h
    obtain ⟨rfl, rfl⟩ := h
    unfold evalL at hl
    split at hl
    · cases hl
    · rename_i x hx
      simp only [evalL, Option.some.injEq, Prod.mk.injEq] at hl
      obtain ⟨rfl, rfl⟩ := hl
      have hc1 := (AllP.app.1 hc).1
      refine wpOp_mono (fun a' w' hT => ?_) (ok_op hV (gro_inv hI g) rfl hx hc1)
      obtain ⟨E', hI', he⟩ := hT
      obtain ⟨E'', i', v⟩ := tell_inv hn hI' ht
      exact ⟨_, E'', hΨ, i', (EvoN.of he).trans v⟩
  · cases h
theorem ws_call (hV : EnvOk P V) (i : Nat) (t : Tell) {Ψ : St → Prop} {f N : Nat} {cvs : List CV} {fn : Func} {c : Code} {σ0 σ2 τ' : St} (h : callAt ops i σ = some (f, cvs)) (hf : P.funcs[f]? = some fn) (hb : fn.body = some c) (hn : fn.name ≠ "runtime.NumGoroutine") (hsz : Nat.ble cvs.length fn.ntmps = true)
    (hN : σ.heap.length = N) (h0 : (⟨fn.ntmps, ptmps 0 cvs, σ.heap⟩ : St) = σ0) (hW : W P N c σ0 (CallQ N τ)) (hr : retAt V.tt fn ops i σ τ = some σ2) (ht : tell t σ2 = some τ') (hid : idN t.src n = true) (hΨ : Ψ τ') : WStep P n ops i σ Ψ := by
  intro F0 w0 E a w Q hI
  subst hN h0
  unfold callAt at h
  split at h
  · rename_i o ho
    rw [nth_eq] at ho
    have hoi : ops[i]? = some o := by simpa using ho
    split at h
    · rename_i c' hg hop
      split at h
      · rename_i f' fs cs l hcl hl
        cases hd : (match o.dst with | some t => Nat.blt t σ.nt | none => true)
        · rw [hd] at h; cases h
        · rw [hd, cond_true] at h
          simp only [Option.some.injEq, Prod.mk.injEq] at h
          obtain ⟨rfl, rfl⟩ := h
          unfold retAt at hr
          rw [nth_eq, ho] at hr
          split at hr
          · rename_i o' lr ho' hlr
            obtain rfl := Option.some.inj ho'
            obtain rfl := Option.some.inj hr
            refine wpOp_mono (fun a' w' ⟨E', hI', he⟩ => ?_) (ok_inline (V := V) hV.ck hoi hg (cl := c'.callee) (args := c'.args) (ts := c'.argTypes) hop hcl hl hf hb hn (Nat.le_of_ble_eq_true hsz) hI hW hlr (fun t ht => by rw [ht] at hd; exact Nat.le_of_ble_eq_true hd))
            obtain ⟨E'', i', v⟩ := tell_inv hid hI' ht
            exact ⟨_, E'', hΨ, i', (EvoN.of he).trans v⟩
          · cases hr
      · cases h
    · cases h
  · cases h
theorem WA_nil {listed : Array Bool} (h : Region.ready .any ops listed = []) (hΦ : Φ .normal σ) : WA P n ops 0 listed Φ σ := fun F0 w0 E a w Q hI hQ => ⟨h, hQ _ _ E σ hΦ hI (.of (Evo.refl E w))⟩
theorem WA_cons {fuel : Nat} {listed : Array Bool} (rs : List Nat) (hr : Region.ready .any ops listed = rs) (hne : rs.isEmpty = false) (h : ∀ i ∈ rs, ∃ L, listed.setIfInBounds i true = L ∧ WStep P n ops i σ (WA P n ops fuel L Φ)) : WA P n ops (fuel + 1) listed Φ σ := fun F0 w0 E a w Q hI hQ => by
  subst hr
  refine ⟨fun e => (by rw [e] at hne; exact absurd hne (by decide)), fun i hi => ?_⟩
  obtain ⟨L, rfl, hL⟩ := h i hi
  refine wpOp_mono (fun a' w' hT => ?_) (hL F0 w0 E a w Q hI)
  obtain ⟨σ', E', h1, h2, h3⟩ := hT
  exact h1 F0 w0 E' a' w' Q h2 fun a'' w'' E'' σ'' k1 k2 k3 => hQ a'' w'' E'' σ'' k1 k2 (h3.trans k3)
def isDraw : Code → Bool
  | .region _ _ true => true
  | _ => false
theorem D_regA (hV : EnvOk P V) {c : Code} (N : Nat) (hc : isDraw c = true) (hs : (Code.ops c).size = N) {L : Array Bool} (hL : Array.replicate N false = L) (h : WA P n (Code.ops c) N L Φ σ) : W P n c σ Φ := by
  subst hs hL
  match c, hc, h with
  | .region id ops true, _, h =>
    intro F0 w0 E a w hI
    refine wp_region_any hV.mixed ?_
    have he : Evo E w E { w with drawn := w.drawn + 1 } := ⟨fun _ _ e => e, fun _ _ e => e, fun _ e => e, fun _ _ => rfl⟩
    have hI' : Inv F0 w0 E σ a { w with drawn := w.drawn + 1 } :=
      hI.evo he ⟨⟨hI.heap.below.os, hI.heap.below.tape, hI.heap.below.output, hI.heap.below.size, hI.heap.below.block⟩, fun k => SlotOk.keep rfl rfl he (fun _ _ => rfl) (hI.heap.slot k), hI.heap.own, hI.heap.inj, hI.heap.fz, hI.heap.sub, hI.heap.sup, hI.heap.gl⟩
    exact h F0 w0 E a _ _ hI' fun a' w' E' σ' h1 h2 h3 => ⟨σ', E', h1, h2, (EvoN.of he).trans h3⟩
end
end Go.Proofs.YtkhjemahenkdiaaGreatDoor.V
