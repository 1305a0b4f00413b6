/- Calls of library functions that take a slice of one's own and hand it back. -/
import Derived.Test.YtajddhechcneoaaVN
namespace Go.Proofs.Ytajddhechcneoaa.V
open Go Go.RowKit
set_option linter.unusedVariables false
set_option linter.unusedSimpArgs false
theorem cst_gives2 {σ : St} {e τ : Ty} {xs : List e.T} {k : List τ.T → Rd} {ws : List Wr} (h : (cst e τ xs k).gives σ ws) : ∃ he : e = τ, ∃ ys : List τ.T, HEq ys xs ∧ (k ys).gives σ ws := by
  obtain ⟨rfl, h⟩ := cst_gives h
  exact ⟨rfl, xs, HEq.rfl, h⟩
theorem beq_nf {a b : Nat} (h : Nat.beq a b = false) : a ≠ b := by
  rintro rfl
  simp at h
def Enters (P : Program) (f : Nat) : Prop := ∀ args w, (callFunc f args).run P w = .ok (.enter f args) w
/-- slices.Delete of one thing. -/
structure DelOk (P : Program) (f et sz : Nat) : Prop where
  enter : Enters P f
  calls : ∀ (g n cap i : Nat) (cur : Array Value) (w : World), i < n → n ≤ cap → cap ≤ maxLen → w.heap[g]? = some (.cells cur et (0, 0)) → cur.size = cap * sz → (∀ u ∈ cur.toList.take (n * sz), u.oneCell' = true) →
    Calls P f #[.slice (some ⟨g, 0, none⟩) n cap, .int .i64 i, .int .i64 ((i : Int) + 1)] w fun e w' => e = .returned (.slice (some ⟨g, 0, none⟩) (n - 1) cap) ∧
      (∃ cur', w'.heap[g]? = some (.cells cur' et (0, 0)) ∧ cur'.size = cur.size ∧ cur'.toList.take ((n - 1) * sz) = cur.toList.take (i * sz) ++ (cur.toList.take (n * sz)).drop ((i + 1) * sz)) ∧
      (∀ b, b ≠ g → w'.heap[b]? = w.heap[b]?) ∧ w'.heap.size = w.heap.size ∧ w'.os = w.os ∧ w'.tape = w.tape ∧ w'.output = w.output
/-- slices.Insert of one thing. -/
structure InsOk (P : Program) (f et sz bytes : Nat) : Prop where
  enter : Enters P f
  calls : ∀ (v : Value) (inner : List Value) (n i gv capv : Nat) (curv : Array Value) (w : World), Own w et sz v n inner → (∀ u ∈ inner, u.oneCell' = true) → i ≤ n → w.heap[gv]? = some (.cells curv et (0, 0)) → sz ≤ curv.size → 0 < capv → (∀ u ∈ curv.toList.take sz, u.oneCell' = true) → (n + 1) * bytes ≤ 140737488355328 →
    (∀ b o m c, v = .slice (some ⟨b, o, none⟩) m c → 0 < c → b ≠ gv) →
    Calls P f #[v, .int .i64 i, .slice (some ⟨gv, 0, none⟩) 1 capv] w fun e w' => ∃ v', e = .returned v' ∧ Own w' et sz v' (n + 1) (inner.take (i * sz) ++ curv.toList.take sz ++ inner.drop (i * sz)) ∧
      (∀ b, b < w.heap.size → (∀ o m c, v = .slice (some ⟨b, o, none⟩) m c → c = 0) → w'.heap[b]? = w.heap[b]?) ∧ w.heap.size ≤ w'.heap.size ∧
      (∀ b o m c, v' = .slice (some ⟨b, o, none⟩) m c → 0 < c → (∃ o m c, v = .slice (some ⟨b, o, none⟩) m c ∧ 0 < c) ∨ w.heap.size ≤ b ∧ b < w'.heap.size) ∧ w'.os = w.os ∧ w'.tape = w.tape ∧ w'.output = w.output
/-- A list of things that each hold a slice, made once more, with one of the slices kept apart. -/
def lnkFit {α β : Type} (m mB : Nat) (xs : List (α × List β)) : Bool := Nat.ble ((xs.length + 1) * m) 140737488355328 && xs.all fun x => Nat.ble (x.2.length * mB) 140737488355328
structure LnkOk (P : Program) (f et etB : Nat) (a b : Ty) (m mB : Nat) : Prop where
  enter : Enters P f
  calls : ∀ (F : Nat → Prop) (xs : List (a.T × List b.T)) (i : Nat) (x : a.T × List b.T) (v : Value) (w : World), Globs F w → RepD F w (.slice (.pair a (.slice b))) xs [v] → xs[i]? = some x → lnkFit m mB xs = true →
    Calls P f #[v] w fun e w' => ∃ v' vB F' i1 c1 i2 inB, e = .returned v' ∧ Below w.heap.size w w' ∧ (∀ b, F b → F' b) ∧ (∀ b, F' b → F b ∨ w.heap.size ≤ b) ∧ (∀ b, F' b → b < w'.heap.size) ∧
      Own w' et (a.sz + 1) v' xs.length (i1 ++ (c1 ++ [vB]) ++ i2) ∧ El (RepD F' w' (.pair a (.slice b))) (xs.take i) i1 ∧ RepD F' w' a x.1 c1 ∧ El (RepD F' w' (.pair a (.slice b))) (xs.drop (i + 1)) i2 ∧
      Own w' etB b.sz vB x.2.length inB ∧ El (RepD F' w' b) x.2 inB ∧
      (∀ q o n c, v' = .slice (some ⟨q, o, none⟩) n c → 0 < c → w.heap.size ≤ q ∧ q < w'.heap.size ∧ ¬ F' q) ∧
      (∀ q o n c, vB = .slice (some ⟨q, o, none⟩) n c → 0 < c → w.heap.size ≤ q ∧ q < w'.heap.size ∧ ¬ F' q ∧ ∀ o' n' c', v' = .slice (some ⟨q, o', none⟩) n' c' → c' = 0)
inductive Prim where
  | del (et : Nat) (τ : Ty)
  | ins (et : Nat) (τ : Ty) (bytes : Nat)
  | lnk (et etB : Nat) (a b : Ty) (m mB : Nat)
def PrimOk (P : Program) (f : Nat) : Prim → Prop
  | .del et τ => DelOk P f et τ.sz
  | .ins et τ bytes => InsOk P f et τ.sz bytes
  | .lnk et etB a b m mB => LnkOk P f et etB a b m mB
structure PH where
  sb : Nat := 0
  sb2 : Nat := 0
  i : Nat := 0
def semPrim (nt hn : Nat) (h : PH) (dst : Option Nat) (p : Prim) (args : List Operand) : Rd := match p, args with
  | .del et τ, [x, y, z] => ev1 x fun xv => ev1 y fun yv => ev1 z fun zv => match yv, zv with
    | .int .i64 i, .int .i64 j => ownB xv (fun s et' τ' xs => cond (Nat.beq et' et) (cst τ' τ xs fun xs => .need (0 ≤ i ∧ i < (xs.length : Int) ∧ j = i + 1) (free hn h.sb (fin nt dst [.slot s .dead [], .slot h.sb (.buf et τ (xs.take i.toNat ++ xs.drop (i.toNat + 1))) []] (.cv (.one (.own h.sb)))))) .fail) .fail
    | _, _ => .fail
  | .ins et τ bytes, [x, y, z] => ev1 x fun xv => ev1 y fun yv => ev1 z fun zv => match yv with
    | .int .i64 i => ownB xv (fun s et' τ' xs => cond (Nat.beq et' et) (cst τ' τ xs fun xs => ownB zv (fun s' et'' τ'' ys => cond (Nat.beq et'' et) (cst τ'' τ ys fun ys => .need (0 ≤ i ∧ i ≤ (xs.length : Int) ∧ ys.length = 1 ∧ (xs.length + 1) * bytes ≤ 140737488355328 ∧ s ≠ s') (free hn h.sb (fin nt dst [.slot s .dead [], .slot h.sb (.buf et τ (xs.take i.toNat ++ ys ++ xs.drop i.toNat)) []] (.cv (.one (.own h.sb)))))) .fail) .fail) .fail) .fail
    | _ => .fail
  | .lnk et etB a b m mB, [x] => evcs [x] fun l => match decs [(false, .slice (.pair a (.slice b)))] l with
    | some xs => .need (h.i < xs.1.length ∧ lnkFit m mB xs.1 = true) (cond (Nat.beq h.sb h.sb2) .fail (free hn h.sb (free hn h.sb2 (fin nt dst [.slot h.sb2 (.buf etB b (att (.pair a (.slice b)) xs.1 (h.i : Int)).2) [], .slot h.sb (.lnk et a b xs.1 h.sb2 h.i) []] (.cv (.one (.own h.sb)))))))
    | none => .fail
  | _, _ => .fail
section
variable {P : Program} {F0 : Nat → Prop} {w0 : World} {E : En} {σ : St} {a : Act} {w : World} {tt : TT} {heap : Heap}
theorem ownB_own (hI : Inv F0 w0 E σ a w) {v : AV} {u : Value} {k1 : (s et : Nat) → (τ : Ty) → List τ.T → Rd} {ws : List Wr} (hv : RepA E w u v) (h : (ownB v k1 .fail).gives σ ws) :
    ∃ s et τ xs inner, (hg σ.heap s).1 = .buf et τ xs ∧ s < σ.heap.length ∧ E.γ s = some u ∧ Own w et τ.sz u xs.length inner ∧ El (RepD E.F w τ) xs inner ∧ (k1 s et τ xs).gives σ ws :=
  (ownB_gives hI hv h).resolve_left Rd.gives_fail
theorem ok_primcall {o : Oper} {f : Nat} {args : Array Operand} {ts : Array Nat} {Q : Exit → Act → World → Prop} {ws : List Wr} (hen : Enters P f) (ho : o.op = .call { callee := .value (.func f), args := args, argTypes := ts }) (hI : Inv F0 w0 E σ a w)
    {hw : List Wr} {x : AV} (hg : (fin σ.nt o.dst hw (.cv (.one x))).gives σ ws)
    (hc : Calls P f (args.map a.eval) w fun e w' => ∃ v E', e = .returned v ∧ InvH F0 w0 E' (σ.aps hw).heap w' ∧ Evo E w E' w' ∧ RepA E' w' v x) (hnt : (σ.aps hw).nt = σ.nt) (htm : (σ.aps hw).tmps = σ.tmps) : Good P F0 w0 E o a w (σ.aps ws) Q := by
  have hrun : (execOp a.eval o).run P w = .ok (.enter f (args.map a.eval)) w := by
    have := hen (args.map a.eval) w
    simp [execOp, ho, resolve, Act.eval, Deferred.ofValue, invoke, this]
  unfold Good Oper.wp
  rw [hrun]
  simp only [Oper.upon]
  refine hc.mono ?_
  rintro e w' ⟨v, E', rfl, h1, h2, h3⟩
  show ∃ E', _
  have hI' : Inv F0 w0 E' (σ.aps hw) a w' := by
    have := hI.evo h2 h1
    have e : (⟨σ.nt, σ.tmps, (σ.aps hw).heap⟩ : St) = σ.aps hw := by rw [← hnt, ← htm]
    rw [e] at this
    exact this
  rcases fin_gives hg with ⟨hd, rfl⟩ | ⟨t, hd, hlt, rfl⟩
  · rw [hd]; exact ⟨E', hI', h2⟩
  · rw [hd, St.aps_app]
    exact ⟨E', hI'.put (by rw [hnt]; exact hlt) (show RepT E' w' v (.cv (.one x)) from h3), h2⟩
theorem take_del {sz : Nat} {cur : List Value} {n i : Nat} (hi : i < n) : cur.take (i * sz) = (cur.take (n * sz)).take (i * sz) := by
  rw [List.take_take, Nat.min_eq_left (Nat.mul_le_mul_right _ (by omega))]
theorem ok_prim {o : Oper} {f : Nat} {ph : PH} {p : Prim} {args : Array Operand} {ts : Array Nat} {Q : Exit → Act → World → Prop} {ws : List Wr} (hp : PrimOk P f p) (ho : o.op = .call { callee := .value (.func f), args := args, argTypes := ts }) (hI : Inv F0 w0 E σ a w)
    (h : (semPrim σ.nt σ.heap.length ph o.dst p args.toList).gives σ ws) : Good P F0 w0 E o a w (σ.aps ws) Q := by
  unfold semPrim at h
  split at h
  · rename_i et τ x y z hargs
    replace hp : DelOk P f et τ.sz := hp
    replace h := ev1_gives hI h
    obtain ⟨xv, hx, h⟩ := h
    replace h := ev1_gives hI h
    obtain ⟨yv, hy, h⟩ := h
    replace h := ev1_gives hI h
    obtain ⟨zv, hz, h⟩ := h
    split at h
    · rename_i i j
      replace h := ownB_own hI hx h
      obtain ⟨s, et', τ', xs, inner, hs, hsl, hγ, hO, hE, h⟩ := h
      cases hb : Nat.beq et' et
      · rw [hb] at h; exact absurd h Rd.gives_fail
      · rw [hb, cond_true] at h
        obtain rfl := Nat.eq_of_beq_eq_true hb
        replace h := cst_gives2 h
        obtain ⟨rfl, zs, hq, h⟩ := h
        have hq := (eq_of_heq hq).symm
        subst hq
        replace h := Rd.gives_need.1 h
        obtain ⟨⟨g0, g1, rfl⟩, h⟩ := h
        obtain ⟨f1, f2, h⟩ := free_gives h
        have hne : s ≠ ph.sb := by rintro rfl; rw [hs] at f2; cases f2
        have hE1 : ∀ u ∈ inner, u.oneCell' = true := El.one hE
        rcases hO with ⟨A, e1, e2, _⟩ | ⟨g, cap, cur, e1, e2, e3, e4, e5, e6, e7⟩
        · omega
        · refine ok_primcall (hw := [.slot s .dead [], .slot ph.sb (.buf et' τ' (xs.take i.toNat ++ xs.drop (i.toNat + 1))) []]) (x := .own ph.sb) hp.enter ho hI h ?_ rfl rfl
          have hargs' : args.map a.eval = #[.slice (some ⟨g, 0, none⟩) xs.length cap, .int .i64 (i.toNat : Int), .int .i64 ((i.toNat : Int) + 1)] := by
            apply Array.ext'
            have hi : ((i.toNat : Nat) : Int) = i := by omega
            have hy : a.eval y = .int .i64 i := hy
            have hz : a.eval z = .int .i64 (i + 1) := hz
            rw [Array.toList_map, hargs, hi]
            simp [e1, hy, hz]
          rw [hargs']
          refine (hp.calls g xs.length cap i.toNat cur w (by omega) e4 e5 e3 e6 (by rw [e7]; exact hE1)).mono ?_
          rintro e w' ⟨rfl, ⟨cur', k1, k2, k3⟩, k4, k5, k6, k7, k8⟩
          have hlive : Live E s (.buf et' τ' xs) g := ⟨0, xs.length, cap, by rw [hγ, e1], e2⟩
          have hgF : ¬ E.F g := (hI.heap.own s g (by rw [hs]; exact hlive)).2.2
          have hev : Evo E w E w' := ⟨fun _ _ e => e, fun _ _ e => e, fun _ e => e, fun b hb => k4 b fun e => hgF (e ▸ hb)⟩
          have hln : (xs.take i.toNat ++ xs.drop (i.toNat + 1)).length = xs.length - 1 := by simp; omega
          obtain ⟨E', p1, p2, p3⟩ := own_trade (w' := w') (et := et') (τ := τ') (xs := xs.take i.toNat ++ xs.drop (i.toNat + 1)) (v := .slice (some ⟨g, 0, none⟩) (xs.length - 1) cap) (inner := inner.take (i.toNat * τ'.sz) ++ inner.drop ((i.toNat + 1) * τ'.sz)) hI.heap hsl hs f1 f2 hne
            (fun b _ hb => k4 b fun e => hb (e ▸ hlive)) k6 k7 k8 (by omega) (by rw [hln]; exact .inr ⟨g, cap, cur', rfl, e2, k1, by omega, e5, by rw [k2, e6], by rw [k3, take_del (n := xs.length) (by omega), e7]⟩)
            (((hE.take (s := τ'.sz) (fun _ _ h => h.len) _).app (hE.drop (s := τ'.sz) (fun _ _ h => h.len) _)).imp (fun _ _ => RepD.evo hev)) (fun b o' n' c' e' hc' => by
              simp only [Value.slice.injEq, Option.some.injEq, Addr.mk.injEq, and_true] at e'
              obtain ⟨⟨rfl, _⟩, _⟩ := e'
              exact .inl hlive)
          exact ⟨_, E', rfl, p1, p2, p3, _, _, _, rfl⟩
    · exact absurd h Rd.gives_fail
  · rename_i et τ bytes x y z hargs
    replace hp : InsOk P f et τ.sz bytes := hp
    replace h := ev1_gives hI h
    obtain ⟨xv, hx, h⟩ := h
    replace h := ev1_gives hI h
    obtain ⟨yv, hy, h⟩ := h
    replace h := ev1_gives hI h
    obtain ⟨zv, hz, h⟩ := h
    split at h
    · rename_i i
      replace h := ownB_own hI hx h
      obtain ⟨s, et', τ', xs, inner, hs, hsl, hγ, hO, hE, h⟩ := h
      cases hb : Nat.beq et' et
      · rw [hb] at h; exact absurd h Rd.gives_fail
      · rw [hb, cond_true] at h
        obtain rfl := Nat.eq_of_beq_eq_true hb
        replace h := cst_gives2 h
        obtain ⟨rfl, zs, hq, h⟩ := h
        have hq := (eq_of_heq hq).symm
        subst hq
        replace h := ownB_own hI hz h
        obtain ⟨s', et'', τ'', ys, inner', hs', hsl', hγ', hO', hE', h⟩ := h
        cases hb : Nat.beq et'' et'
        · rw [hb] at h; exact absurd h Rd.gives_fail
        · rw [hb, cond_true] at h
          obtain rfl := Nat.eq_of_beq_eq_true hb
          replace h := cst_gives2 h
          obtain ⟨rfl, zs, hq, h⟩ := h
          have hq := (eq_of_heq hq).symm
          subst hq
          obtain ⟨⟨g0, g1, g2, g3, g4⟩, h⟩ := Rd.gives_need.1 h
          obtain ⟨f1, f2, h⟩ := free_gives h
          have hne : s ≠ ph.sb := by rintro rfl; rw [hs] at f2; cases f2
          rcases hO' with ⟨A, e1, e2, _⟩ | ⟨gv, capv, curv, e1, e2, e3, e4, e5, e6, e7⟩
          · omega
          · refine ok_primcall (hw := [.slot s .dead [], .slot ph.sb (.buf et'' τ'' (xs.take i.toNat ++ ys ++ xs.drop i.toNat)) []]) (x := .own ph.sb) hp.enter ho hI h ?_ rfl rfl
            have hargs' : args.map a.eval = #[a.eval x, .int .i64 (i.toNat : Int), .slice (some ⟨gv, 0, none⟩) 1 capv] := by
              apply Array.ext'
              have hi : ((i.toNat : Nat) : Int) = i := by omega
              have hy : a.eval y = .int .i64 i := hy
              rw [Array.toList_map, hargs, hi]
              simp [e1, hy, g2]
            rw [g2, Nat.one_mul] at e7
            have hlive : ∀ b, Live E s (.buf et'' τ'' xs) b ↔ ∃ o m c, a.eval x = .slice (some ⟨b, o, none⟩) m c ∧ 0 < c := by
              intro b; simp [Live, hγ]
            have hliv' : Live E s' (.buf et'' τ'' ys) gv := ⟨0, ys.length, capv, by rw [hγ', e1], e2⟩
            rw [hargs']
            refine (hp.calls (a.eval x) inner xs.length i.toNat gv capv curv w hO (El.one hE) (by omega) e3 (by rw [e6]; exact Nat.le_mul_of_pos_left _ e2) e2 (by rw [e7]; exact El.one hE') g3 (fun b o m c e hc hbg => by
              subst hbg
              exact g4 (hI.heap.inj s s' b (by rw [hs]; exact (hlive b).2 ⟨o, m, c, e, hc⟩) (by rw [hs']; exact hliv')))).mono ?_
            rintro e w' ⟨v', rfl, k1, k2, k3, k4, k5, k6, k7⟩
            have hw' : ∀ b, b < w.heap.size → ¬ Live E s (.buf et'' τ'' xs) b → w'.heap[b]? = w.heap[b]? := fun b hb hl => k2 b hb fun o m c e => by
              refine Nat.eq_zero_of_not_pos fun hc => hl ((hlive b).2 ⟨o, m, c, e, hc⟩)
            have hev : Evo E w E w' := ⟨fun _ _ e => e, fun _ _ e => e, fun _ e => e, fun b hb => hw' b (hI.heap.fz b hb) fun hl => (hI.heap.own s b (by rw [hs]; exact hl)).2.2 hb⟩
            have hln : (xs.take i.toNat ++ ys ++ xs.drop i.toNat).length = xs.length + 1 := by simp; omega
            have hyl : ys.length * τ''.sz = τ''.sz := by rw [g2, Nat.one_mul]
            obtain ⟨E', p1, p2, p3⟩ := own_trade (w' := w') (et := et'') (τ := τ'') (xs := xs.take i.toNat ++ ys ++ xs.drop i.toNat) (v := v') (inner := inner.take (i.toNat * τ''.sz) ++ curv.toList.take τ''.sz ++ inner.drop (i.toNat * τ''.sz)) hI.heap hsl hs f1 f2 hne
              hw' k5 k6 k7 k3 (by rw [hln]; exact k1)
              ((((hE.take (s := τ''.sz) (fun _ _ h => h.len) _).app (by rw [e7]; exact hE')).app (hE.drop (s := τ''.sz) (fun _ _ h => h.len) _)).imp (fun _ _ => RepD.evo hev)) (fun b o' n' c' e' hc' => by
                rcases k4 b o' n' c' e' hc' with hl | hr
                · exact .inl ((hlive b).2 hl)
                · exact .inr hr)
            have hsl2 : ∃ A n c, v' = .slice A n c := by
              rcases k1 with ⟨A, e, _⟩ | ⟨g, cap, cur, e, _⟩
              · exact ⟨_, _, _, e⟩
              · exact ⟨_, _, _, e⟩
            exact ⟨_, E', rfl, p1, p2, p3, hsl2⟩
    · exact absurd h Rd.gives_fail
  · rename_i et etB a' b' m mB x hargs
    replace hp : LnkOk P f et etB a' b' m mB := hp
    replace h := evcs_gives hI h
    obtain ⟨l, hl, h⟩ := h
    split at h
    · rename_i xs hxs
      · obtain ⟨⟨hil, hfit⟩, h⟩ := Rd.gives_need.1 h
        have hz : xs.1[ph.i]? = some (att (.pair a' (.slice b')) xs.1 (ph.i : Int)) := by
          have := att_get (e := .pair a' (.slice b')) (xs := xs.1) (j := (ph.i : Int)) (by omega) (by omega)
          simpa using this
        generalize att (.pair a' (.slice b')) xs.1 (ph.i : Int) = z at h hz
        cases hb : Nat.beq ph.sb ph.sb2
        · rw [hb, cond_false] at h
          have hb := beq_nf hb
          obtain ⟨f1, f2, h⟩ := free_gives h
          obtain ⟨f3, f4, h⟩ := free_gives h
          refine ok_primcall (hw := [.slot ph.sb2 (.buf etB b' z.2) [], .slot ph.sb (.lnk et a' b' xs.1 ph.sb2 ph.i) []]) (x := .own ph.sb) hp.enter ho hI h ?_ rfl rfl
          have hd := decs_ok hl hxs
          have hargs' : args.map a.eval = #[a.eval x] := by
            apply Array.ext'
            rw [Array.toList_map, hargs]
            rfl
          rw [hargs']
          have hrep : RepD E.F w (.slice (.pair a' (.slice b'))) xs.1 [a.eval x] := hd.1.1
          refine (hp.calls E.F xs.1 ph.i z (a.eval x) w hI.globs hrep hz hfit).mono ?_
          rintro e w' ⟨v', vB, F', i1, c1, i2, inB, rfl, hbel, k1, k2, k3, k4, k5, k6, k7, k8, k9, k10, k11⟩
          obtain ⟨q1, q2⟩ := hI.heap.called hbel k1 k2 k3
          have hnl : ∀ q, w.heap.size ≤ q → ∀ j, ¬ Live (⟨E.β, E.γ, F'⟩ : En) j (hg σ.heap j).1 q := fun q hq j hj => by
            have := (hI.heap.own j q ((Live_eq (E := E) (E' := ⟨E.β, E.γ, F'⟩) rfl rfl).1 hj)).2.1
            omega
          obtain ⟨p1, p2⟩ := q1.newγ (w' := w') (k := ph.sb2) (v := vB) f3 f4 (Below.refl _ w') (fun _ _ => rfl) (fun _ _ _ _ => rfl) (s := .buf etB b' z.2) (c := []) ⟨vB, inB, by simp [updγ], k8, k9⟩ (fun q hq => by
            obtain ⟨o, n, c, e, hc⟩ := live_upd.1 hq
            obtain ⟨r1, r2, r3, _⟩ := k11 q o n c e hc
            exact ⟨Nat.le_trans hI.heap.below.size r1, r2, r3, fun j _ => hnl q r1 j⟩)
          have p3 : (updγ ⟨E.β, E.γ, F'⟩ ph.sb2 vB).γ ph.sb2 = some vB := by simp [updγ]
          have hne : ph.sb2 ≠ ph.sb := fun e => hb e.symm
          have f2' : (hg (hs σ.heap ph.sb2 (.buf etB b' z.2, [])) ph.sb).1 = .none := by rw [hg_hs' _ _ _ _ hne]; exact f2
          obtain ⟨r1, r2⟩ := p1.newγ (w' := w') (k := ph.sb) (v := v') (by rw [hs_len]; exact f1) f2' (Below.refl _ w') (fun _ _ => rfl) (fun _ _ _ _ => rfl) (s := .lnk et a' b' xs.1 ph.sb2 ph.i) (c := [])
            ⟨v', vB, i1, c1, i2, z, by simp [updγ], by simp [updγ, hne, p3], by
              rcases k8 with ⟨A, e, _⟩ | ⟨g, cap, cur, e, _⟩
              · exact ⟨_, _, _, e⟩
              · exact ⟨_, _, _, e⟩, k4, hz, k5.imp (fun _ _ => RepD.step (fun b hb => p2.F b hb) (fun _ _ => rfl)), k6.step (fun b hb => p2.F b hb) (fun _ _ => rfl), k7.imp (fun _ _ => RepD.step (fun b hb => p2.F b hb) (fun _ _ => rfl))⟩
            (fun q hq => by
              obtain ⟨o, n, c, e, hc⟩ : ∃ o n c, v' = .slice (some ⟨q, o, none⟩) n c ∧ 0 < c := by simpa [Live, updγ] using hq
              obtain ⟨r1, r2, r3⟩ := k10 q o n c e hc
              refine ⟨Nat.le_trans hI.heap.below.size r1, r2, fun hF => ?_, fun j hj hl => ?_⟩
              · exact r3 hF
              · rw [hg_hs _ _ _ _ f3] at hl
                by_cases ej : ph.sb2 = j
                · subst ej
                  rw [if_pos rfl] at hl
                  obtain ⟨o', n', c', e', hc'⟩ := hl
                  rw [p3] at e'
                  have e' := Option.some.inj e'
                  have := (k11 q o' n' c' e' hc').2.2.2 o n c e
                  omega
                · rw [if_neg ej] at hl
                  exact hnl q r1 j ((Live_eq (E := ⟨E.β, E.γ, F'⟩) (E' := updγ ⟨E.β, E.γ, F'⟩ ph.sb2 vB) rfl (if_neg (fun e => ej e.symm))).1 hl))
          exact ⟨_, _, rfl, r1, (q2.trans p2).trans r2, by simp [updγ], by
            rcases k4 with ⟨A, e, _⟩ | ⟨g, cap, cur, e, _⟩
            · exact ⟨_, _, _, e⟩
            · exact ⟨_, _, _, e⟩⟩
        · rw [hb, cond_true] at h; exact absurd h Rd.gives_fail
    · exact absurd h Rd.gives_fail
  · exact absurd h Rd.gives_fail
end
end Go.Proofs.Ytajddhechcneoaa.V
