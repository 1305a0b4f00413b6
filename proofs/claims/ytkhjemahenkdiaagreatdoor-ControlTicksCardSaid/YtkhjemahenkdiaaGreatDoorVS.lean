/- Functions: from their code to their contract. -/
import Derived.Test.YtkhjemahenkdiaaGreatDoorVR
namespace Go.Proofs.YtkhjemahenkdiaaGreatDoor.V
open Go Go.RowKit
set_option linter.unusedVariables false
set_option linter.unusedSimpArgs false
def capA (rc : Cap) : AV → Bool
  | .sl _ _ c => match rc with | .any => true | rc => decide (c = rc)
  | .nils => match rc with | .nn => false | .nl => false | _ => true
  | .int _ _ => true
  | .bool _ => true
  | _ => false
def capL (rc : Cap) : List AV → Bool
  | [] => true
  | x :: r => capA rc x && capL rc r
theorem capL_take {rc : Cap} : ∀ (n : Nat) {l : List AV}, capL rc l = true → capL rc (l.take n) = true
  | 0, _, _ => rfl
  | _ + 1, [], _ => rfl
  | n + 1, x :: l, h => by
    simp only [capL, Bool.and_eq_true] at h
    simp only [List.take_succ_cons, capL, Bool.and_eq_true]
    exact ⟨h.1, capL_take n h.2⟩
theorem capL_drop {rc : Cap} : ∀ (n : Nat) {l : List AV}, capL rc l = true → capL rc (l.drop n) = true
  | 0, _, h => h
  | _ + 1, [], _ => rfl
  | n + 1, x :: l, h => by
    simp only [capL, Bool.and_eq_true] at h
    exact capL_drop n h.2
section
variable {P : Program} {F0 : Nat → Prop} {w0 : World} {E : En} {σ : St} {a : Act} {w : World} {tt : TT}
theorem dec_encC {rc : Cap} : ∀ {t : Ty} {l : List AV} {x : t.T} {vs : List Value}, RepL E w vs l → capL rc l = true → dec t l = some x → RepL (E0 E.F) w vs (encC rc t x)
  | .int k, l, x, vs, h, _, e => by
    have := RepD.dec h e
    rw [show vs = _ from this]
    exact ⟨rfl, trivial⟩
  | .bool, l, x, vs, h, _, e => by
    have := RepD.dec h e
    rw [show vs = _ from this]
    exact ⟨rfl, trivial⟩
  | .slice e0, l, x, vs, h, hc, e => by
    have hr := RepD.dec h e
    have hr' := hr
    obtain ⟨A, c, i, rfl, _⟩ := hr'
    refine ⟨⟨hr, ?_⟩, trivial⟩
    simp only [dec] at e
    unfold decS at e
    split at e
    · rename_i e' xs c'
      obtain ⟨v, hv, hvr⟩ := h.single
      obtain rfl := List.singleton_inj.1 hv
      simp only [capL, Bool.and_true, capA] at hc
      have hcap := hvr.2
      split at hc
      · trivial
      · rw [← of_decide_eq_true hc]; exact hcap
    · obtain ⟨v, hv, hvr⟩ := h.single
      obtain rfl := List.singleton_inj.1 hv
      have hvr : Value.slice A x.length c = .slice none 0 0 := hvr
      rw [hvr]
      cases rc <;> first | trivial | rfl | simp [capL, capA] at hc
    · cases e
  | .pair a b, l, x, vs, h, hc, e => by
    simp only [dec] at e
    split at e
    · rename_i x1 y1 h1 h2
      obtain rfl := Option.some.inj e
      have k1 := dec_encC (h.take a.sz) (capL_take _ hc) h1
      have k2 := dec_encC (h.drop a.sz) (capL_drop _ hc) h2
      have := k1.app k2
      rw [List.take_append_drop] at this
      exact this
    · cases e
def capCs (rc : Cap) : List CV → Bool
  | [] => true
  | c :: r => capL rc c.cells && capCs rc r
theorem decs_okC {rc : Cap} : ∀ {s : Sg} {l : List CV} {x : Tup s} {vs : List Value}, All2 (RepC E w) vs l → capCs rc l = true → decs s l = some x → All2 (RepC (E0 E.F) w) vs (mkCVs rc s x)
  | [], [], _, [], hl, _, _ => trivial
  | (b, τ) :: r, c :: l, x, v :: vs, hl, hcp, h => by
    simp only [capCs, Bool.and_eq_true] at hcp
    unfold decs at h
    split at h
    · rename_i hb
      split at h
      · rename_i x1 y1 h1 h2
        obtain rfl := Option.some.inj h
        refine ⟨?_, decs_okC hl.2 hcp.2 h2⟩
        have hr := dec_encC hl.1.cells hcp.1 h1
        cases c with
        | one u =>
          have hone := RepA.one hl.1
          have hc : v.cells.toList = [v] := by cases v <;> simp_all [Value.oneCell', Value.cells]
          rw [hc] at hr
          obtain rfl : b = false := hb
          have key : ∀ L, RepL (E0 E.F) w [v] L → RepC (E0 E.F) w v (cvOf false L) := fun L hL => by
            match L, hL with
            | [q], hL => exact hL.1
          exact key _ hr
        | agg u =>
          obtain ⟨cs, rfl, _⟩ := hl.1
          obtain rfl : b = true := hb
          have key : ∀ L, RepL (E0 E.F) w cs.toList L → RepC (E0 E.F) w (.agg cs) (cvOf true L) := fun L hL => by
            rw [cvOf_true]; exact ⟨cs, rfl, hL⟩
          exact key _ hr
      · cases h
    · cases h
  | [], _ :: _, _, _, _, _, h => by simp [decs] at h
  | (_, _) :: _, [], _, _, _, _, h => by simp [decs] at h
/-- A thing as it is when the function has returned: no slot is any more. -/
def outA (h : Heap) : AV → AV
  | .own k => match (hg h k).1 with
    | .buf _ e xs => .sl e xs .any
    | .frz e xs => .sl e xs .any
    | _ => .bad
  | x => x
def outL (h : Heap) : List AV → List AV
  | [] => []
  | x :: r => outA h x :: outL h r
def outC (h : Heap) : CV → CV
  | .one x => .one (outA h x)
  | .agg l => .agg (outL h l)
def resV (tt : TT) (σ : St) : List ResultVar → Option (List CV)
  | [] => some []
  | .tmp t :: r => match lk σ.tmps t, resV tt σ r with
    | .cv c, some l => some (outC σ.heap c :: l)
    | _, _ => none
  | .cell t ty :: r => match lk σ.tmps t, tt.at ty, resV tt σ r with
    | .cv (.one (.ptr k off)), some i, some l => match (hg σ.heap k).1 with
      | .box n => cond (Nat.ble (off + i.n) n) (match mkC i.agg (((hg σ.heap k).2.drop off).take i.n) with
        | some c => some (outC σ.heap c :: l)
        | none => none) none
      | _ => none
    | _, _, _ => none
def outE (E : En) (w0 w : World) : En := ⟨E.β, E.γ, fun b => E.F b ∨ (w0.heap.size ≤ b ∧ b < w.heap.size)⟩
theorem out_evo (hI : InvH F0 w0 E σ.heap w) : Evo E w (outE E w0 w) w := ⟨fun _ _ e => e, fun _ _ e => e, fun _ e => .inl e, fun _ _ => rfl⟩
theorem own_frz (hI : InvH F0 w0 E σ.heap w) {k et : Nat} {e : Ty} {xs : List e.T} (hs : (hg σ.heap k).1 = .buf et e xs) {v : Value} (hγ : E.γ k = some v) : RepD (outE E w0 w).F w (.slice e) xs [v] := by
  have h := hI.slot k
  rw [hs] at h
  obtain ⟨u, inner, h1, h2, h3⟩ := h
  rw [hγ] at h1
  obtain rfl := Option.some.inj h1
  have h3' := h3.imp (fun _ _ => RepD.evo (out_evo hI))
  rcases h2 with ⟨A, e1, e2, e3⟩ | ⟨g, cap, cur, e1, e2, e3, e4, e5, e6, e7⟩
  · refine ⟨A, 0, inner, by rw [e1, e2], by omega, h3', fun j u hu => by rw [e3] at hu; simp at hu⟩
  · refine ⟨some ⟨g, 0, none⟩, cap, inner, by rw [e1], e4, h3', fun j u hu => ⟨g, 0, rfl, .inr ?_, ?_⟩⟩
    · have := hI.own k g (by rw [hs]; exact ⟨0, xs.length, cap, by rw [hγ, e1], e2⟩)
      exact ⟨this.1, this.2.1⟩
    · rw [cell_of_row _ _ _ _ _ _ e3, Nat.zero_add]
      rw [← e7, List.getElem?_take] at hu
      split at hu
      · simpa using hu
      · cases hu
theorem outA_ok (hI : InvH F0 w0 E σ.heap w) {v : Value} {x : AV} (h : RepA E w v x) : RepA (outE E w0 w) w v (outA σ.heap x) := by
  have he := h.evo (out_evo hI)
  cases x <;> simp only [outA] <;> try exact he
  case own k =>
    split
    · rename_i et e xs hs; exact ⟨own_frz hI hs h.1, trivial⟩
    · rename_i e xs hs
      have hk := hI.slot k
      rw [hs] at hk
      obtain ⟨u, h1, h2⟩ := hk
      have h3 := h.1
      rw [h1] at h3
      obtain rfl := Option.some.inj h3
      exact ⟨h2.evo (out_evo hI), trivial⟩
    · exact he.one
theorem outL_ok (hI : InvH F0 w0 E σ.heap w) : ∀ {l : List AV} {vs : List Value}, RepL E w vs l → RepL (outE E w0 w) w vs (outL σ.heap l)
  | [], [], _ => trivial
  | x :: r, v :: vs, h => ⟨outA_ok hI h.1, outL_ok hI h.2⟩
theorem outC_ok (hI : InvH F0 w0 E σ.heap w) {v : Value} {c : CV} (h : RepC E w v c) : RepC (outE E w0 w) w v (outC σ.heap c) := by
  cases c with
  | one x => exact outA_ok hI h
  | agg l => obtain ⟨cs, e, hl⟩ := h; exact ⟨cs, e, outL_ok hI hl⟩
def resF (tmps : Array Value) : ResultVar → Sem Value
  | .tmp t => pure (tmps.getD t undef)
  | .cell p t => do loadVar t (← asAddr (tmps.getD p undef))
theorem results_eq (fn : Func) (tmps : Array Value) : results fn tmps = (do let vs ← fn.results.mapM (resF tmps); pure (if h : vs.size = 1 then vs[0] else .tuple vs)) := by
  unfold results
  congr 1
theorem resV_ok (hck : tt.ck P = true) (hI : Inv F0 w0 E σ a w) : ∀ {rs : List ResultVar} {l : List CV}, resV tt σ rs = some l → ∃ vs : List Value, (rs.mapM (resF a.tmps)).run P w = .ok vs w ∧ All2 (RepC (outE E w0 w) w) vs l
  | [], l, h => by
    obtain rfl := Option.some.inj h
    exact ⟨[], by simp, trivial⟩
  | .tmp t :: r, l, h => by
    unfold resV at h
    split at h
    · rename_i c l' hc hl
      obtain rfl := Option.some.inj h
      obtain ⟨vs, hr, hvs⟩ := resV_ok hck hI hl
      have h1 := hI.tmp t
      rw [hc] at h1
      refine ⟨a.tmps.getD t undef :: vs, ?_, outC_ok hI.heap h1, hvs⟩
      rw [List.mapM_cons]
      simp only [resF, Sem.run_bind, Sem.run_pure, Result.andThen_ok, hr]
    · cases h
  | .cell t ty :: r, l, h => by
    unfold resV at h
    split at h
    · rename_i k off i l' hc hi hl
      split at h
      · rename_i n hs
        cases hb : Nat.ble (off + i.n) n
        · rw [hb] at h; cases h
        · rw [hb, cond_true] at h
          have hb := Nat.le_of_ble_eq_true hb
          split at h
          · rename_i c hm
            obtain rfl := Option.some.inj h
            obtain ⟨vs, hr, hvs⟩ := resV_ok hck hI hl
            have h1 := hI.tmp t
            rw [hc] at h1
            obtain ⟨b, hβ, e⟩ := h1
            have hk := hI.heap.slot k
            rw [hs] at hk
            obtain ⟨b', cs, ty', g1, g2, g3, g4⟩ := hk
            rw [hβ] at g1
            obtain rfl := Option.some.inj g1
            have hlen := g4.len
            rw [g3] at hlen
            have hcut := cut_cells (w := w) (b := b) (o := 0) (p := off) (n := i.n) (cs := cs.toList) rfl (fun j u hj => by rw [Nat.zero_add, cell_of_row _ _ _ _ _ _ g2]; simpa using hj)
            have hrep : RepL E w ((cs.toList.drop off).take i.n) (((hg σ.heap k).2.drop off).take i.n) := (g4.drop _).take _
            have hvl : ((cs.toList.drop off).take i.n).length = i.n := by rw [List.length_take, List.length_drop, hlen]; omega
            obtain ⟨u, hu, k1, k2⟩ := run_loadV (w := w) (TT.fact hck hi) hvl (by simpa using hcut) (fun ha => by
              have := mkC_one hm ha
              rw [← hvl, hrep.len, this])
            refine ⟨u :: vs, ?_, outC_ok hI.heap (mkC_ok hm hrep k1 k2), hvs⟩
            have e : a.tmps.getD t undef = .pointer (some ⟨b, off, none⟩) := e
            rw [List.mapM_cons]
            simp only [resF, Sem.run_bind, e, asAddr, Sem.run_pure, Result.andThen_ok, hu, hr]
          · cases h
      · cases h
    · cases h
/-- That a state answers r. -/
def ret (tt : TT) (rs : Array ResultVar) (σ : St) (s : Spec) : Option (Tup s.rs) := match resV tt σ rs.toList with
  | some l => cond (capCs s.rc l) (decs s.rs l) none
  | none => none
def ptmps : Nat → List CV → List (Nat × TV)
  | _, [] => []
  | i, c :: r => (i, .cv c) :: ptmps (i + 1) r
def start (nt : Nat) (s : Spec) (x : Tup s.ps) : St := ⟨nt, ptmps 0 (mkCVs .any s.ps x), []⟩
theorem RepC.up {F : Nat → Prop} {v : Value} {c : CV} (h : RepC (E0 F) w v c) : RepC ⟨fun _ => none, fun _ => none, F⟩ w v c := h
theorem ptmps_lk : ∀ {cs : List CV} {vs : List Value} {i t : Nat} {E : En} {w : World}, All2 (RepC E w) vs cs → ∀ f : Nat → Value, (∀ j v, vs[j]? = some v → f (i + j) = v) → RepT E w (f t) (lk (ptmps i cs) t)
  | [], [], i, t, E, w, _, f, _ => trivial
  | c :: cs, v :: vs, i, t, E, w, h, f, hf => by
    simp only [ptmps, lk]
    by_cases e : i = t
    · subst e
      rw [Nat.beq_refl]
      have := hf 0 v rfl
      rw [Nat.add_zero] at this
      rw [this]
      exact h.1
    · rw [beq_f e]
      exact ptmps_lk h.2 f (fun j u hu => by have := hf (j + 1) u (by simpa using hu); rw [← this]; congr 1; omega)
/-- A function's contract out of its code. -/
theorem fits_of {V : Env} (hV : EnvOk P V) {f : Nat} {fn : Func} {c : Code} {s : Spec} (hf : P.funcs[f]? = some fn) (hb : fn.body = some c) (hn : fn.name ≠ "runtime.NumGoroutine") (hps : s.ps.length ≤ fn.ntmps) (ho : s.own = none)
    (h : ∀ x r, s.rel x r → W P 0 c (start fn.ntmps s x) (fun e σ' => (e = .normal ∨ e = .ret) ∧ ret V.tt fn.results σ' s = some r)) : Fits P f s := by
  refine ⟨fun args w => ?_, fun x r hrel F w args hF hargs => ?_⟩
  · simp [callFunc, hf, hb, hn]
  · have hlen : args.size = s.ps.length := by
      have h1 := hargs.len
      have h2 : ∀ (s : Sg) (x : Tup s), (mkCVs .any s x).length = s.length := by
        intro s
        induction s with
        | nil => intro _; rfl
        | cons p r ih => intro x; simp [mkCVs, ih]
      rw [h2, Array.length_toList] at h1
      exact h1
    refine calls_of_wp hf hb (wp_mono (h x r hrel F w (E0 F) { tmps := args ++ Array.replicate (fn.ntmps - args.size) undef, defers := [] } w ⟨?_, rfl, fun t => ?_, ⟨Below.refl _ _, fun k => ⟨rfl, rfl⟩, fun k b hl => hl.elim, fun k k' b hl => hl.elim, hF.1, fun b hb => .inl hb, fun b hb => hb, hF⟩⟩) ?_)
    · simp [start]
      omega
    · refine ptmps_lk hargs (fun t => (args ++ Array.replicate (fn.ntmps - args.size) undef).getD t undef) (fun j v hv => ?_)
      have hj : args[j]? = some v := by simpa using hv
      have hjl := (Array.getElem?_eq_some_iff.1 hj).1
      simp only [Nat.zero_add, Array.getD_eq_getD_getElem?]
      rw [Array.getElem?_append_left hjl, hj]
      rfl
    · rintro e a' w' ⟨σ', E', ⟨he, hret⟩, hI, hev⟩
      unfold ret at hret
      split at hret
      · rename_i l hl
        cases hcp : capCs s.rc l
        · rw [hcp] at hret; cases hret
        · rw [hcp, cond_true] at hret
          obtain ⟨vs, hrun, hvs⟩ := resV_ok hV.ck hI hl
          have hres := decs_okC hvs hcp hret
          have hfin : ∃ v, (results fn a'.tmps).run P w' = .ok v w' ∧ RepT (E0 (outE E' w w').F) w' v (mkTV s.rc s.rs r) := by
            rw [results_eq, Sem.run_bind, Array.mapM_eq_mapM_toList, Sem.run_map, hrun]
            simp only [Result.andThen_ok, Sem.run_pure]
            refine ⟨_, rfl, ?_⟩
            unfold mkTV
            generalize mkCVs s.rc s.rs r = L at hres
            match vs, L, hres with
            | [], [], _ => exact ⟨#[], rfl, trivial⟩
            | [v], [c], hres => exact hres.1
            | v :: v' :: vs, c :: c' :: L, hres => exact ⟨(v :: v' :: vs).toArray, by simp, by simpa using hres⟩
          obtain ⟨v, hv1, hv2⟩ := hfin
          have hR : ∃ v, (results fn a'.tmps).run P w' = .ok v w' ∧ ∃ v', Ending.returned v = .returned v' ∧ Below w.heap.size w w' ∧ Told F w w' v' s r := by
            refine ⟨v, hv1, v, rfl, hI.heap.below, (outE E' w w').F, fun b hb => .inl (hI.heap.sup b hb), fun b hb => ?_, fun b hb => ?_, ?_⟩
            · rcases hb with hb | hb
              · exact hI.heap.sub b hb
              · exact .inr hb.1
            · rcases hb with hb | hb
              · exact hI.heap.fz b hb
              · exact hb.2
            · rw [ho]; exact hv2
          rcases he with rfl | rfl
          · exact ⟨hI.df, hR⟩
          · exact ⟨hI.df, hR⟩
      · cases hret
end
end Go.Proofs.YtkhjemahenkdiaaGreatDoor.V
