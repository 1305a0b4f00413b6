/- Steps that change how a state is told; code by its place in a function. -/
import Derived.Test.YtkhjemahenkdiaaGreatDoorVS
namespace Go.Proofs.YtkhjemahenkdiaaGreatDoor.V
open Go Go.RowKit
set_option linter.unusedVariables false
set_option linter.unusedSimpArgs false
section
variable {P : Program} {V : Env} {F0 : Nat → Prop} {w0 : World} {E : En} {σ τ : St} {a : Act} {w : World} {n : Nat} {Φ : Exit → St → Prop} {c d : Code}
-- more slots
def nones : Nat → Heap
  | 0 => []
  | k + 1 => (.none, []) :: nones k
def apnd : Heap → Heap → Heap
  | [], r => r
  | x :: l, r => x :: apnd l r
def gro (g : Nat) (σ : St) : St := ⟨σ.nt, σ.tmps, apnd σ.heap (nones g)⟩
theorem hg_nones : ∀ (g k : Nat), hg (nones g) k = (.none, [])
  | 0, k => by simp [nones, hg]
  | g + 1, 0 => rfl
  | g + 1, k + 1 => hg_nones g k
theorem hg_apnd (g : Nat) : ∀ (h : Heap) (k : Nat), hg (apnd h (nones g)) k = hg h k
  | [], k => by simp [apnd, hg_nones, hg]
  | x :: r, 0 => rfl
  | x :: r, k + 1 => hg_apnd g r k
theorem inv_heap (hI : Inv F0 w0 E σ a w) {h : Heap} (he : ∀ k, hg h k = hg σ.heap k) : Inv F0 w0 E ⟨σ.nt, σ.tmps, h⟩ a w :=
  ⟨hI.nt, hI.df, hI.tmp, ⟨hI.heap.below, fun k => by simp only [he]; exact hI.heap.slot k, fun k b hl => hI.heap.own k b (by simpa only [he] using hl), fun k k' b hl hl' => hI.heap.inj k k' b (by simpa only [he] using hl) (by simpa only [he] using hl'), hI.heap.fz, hI.heap.sub, hI.heap.sup, hI.heap.gl⟩⟩
theorem gro_inv (hI : Inv F0 w0 E σ a w) (g : Nat) : Inv F0 w0 E (gro g σ) a w := inv_heap hI (hg_apnd g σ.heap)
-- a slice of one's own that is written no more
def frA (k : Nat) (e : Ty) (xs : List e.T) : AV → AV
  | .own j => cond (Nat.beq j k) (.sl e xs .any) (.own j)
  | .eptr j e' i o => cond (Nat.beq j k) .bad (.eptr j e' i o)
  | .oview j e' lo => cond (Nat.beq j k) .bad (.oview j e' lo)
  | .lsl a x B => cond (Nat.beq B k) .bad (.lsl a x B)
  | x => x
def frL (k : Nat) (e : Ty) (xs : List e.T) : List AV → List AV
  | [] => []
  | x :: r => frA k e xs x :: frL k e xs r
def frC (k : Nat) (e : Ty) (xs : List e.T) : CV → CV
  | .one x => .one (frA k e xs x)
  | .agg l => .agg (frL k e xs l)
def frCs (k : Nat) (e : Ty) (xs : List e.T) : List CV → List CV
  | [] => []
  | x :: r => frC k e xs x :: frCs k e xs r
def frT (k : Nat) (e : Ty) (xs : List e.T) : TV → TV
  | .bad => .bad
  | .cv c => .cv (frC k e xs c)
  | .tup l => .tup (frCs k e xs l)
def frM (k : Nat) (e : Ty) (xs : List e.T) : List (Int × AV) → List (Int × AV)
  | [] => []
  | (i, x) :: r => (i, frA k e xs x) :: frM k e xs r
def cstS (e τ : Ty) (xs : List e.T) (k : List τ.T → Sl) : Sl := if h : e = τ then k (h ▸ xs) else .dead
def frS (k : Nat) (e : Ty) (xs : List e.T) : Sl → Sl
  | .map es => .map (frM k e xs es)
  | .lnk et a b l B i => cond (Nat.beq B k) (cstS e b xs fun xs => .buf et (.pair a (.slice b)) (lnkd l i xs)) (.lnk et a b l B i)
  | s => s
def frTs (k : Nat) (e : Ty) (xs : List e.T) : List (Nat × TV) → List (Nat × TV)
  | [] => []
  | (t, x) :: r => (t, frT k e xs x) :: frTs k e xs r
def frH (k : Nat) (e : Ty) (xs : List e.T) : Nat → Heap → Heap
  | _, [] => []
  | j, (s, c) :: r => (cond (Nat.beq j k) .dead (frS k e xs s), frL k e xs c) :: frH k e xs (j + 1) r
def freeze1 (k : Nat) (σ : St) : Option St := match (hg σ.heap k).1 with
  | .buf _ e xs => some ⟨σ.nt, frTs k e xs σ.tmps, frH k e xs 0 σ.heap⟩
  | _ => none
def frE (E : En) (k : Nat) : En := ⟨E.β, E.γ, fun b => E.F b ∨ ∃ o m c, E.γ k = some (.slice (some ⟨b, o, none⟩) m c) ∧ 0 < c⟩
theorem fr_evo {k : Nat} : Evo E w (frE E k) w := ⟨fun _ _ e => e, fun _ _ e => e, fun _ e => .inl e, fun _ _ => rfl⟩
section
variable {k : Nat} {e : Ty} {xs : List e.T} (hk : ∀ v, E.γ k = some v → RepD (frE E k).F w (.slice e) xs [v])
include hk
theorem frA_ok {v : Value} {x : AV} (h : RepA E w v x) : RepA (frE E k) w v (frA k e xs x) := by
  have he := h.evo (fr_evo (k := k))
  cases x <;> simp only [frA] <;> try exact he
  case own j =>
    cases hb : Nat.beq j k
    · exact he
    · have := Nat.eq_of_beq_eq_true hb
      subst this
      exact ⟨hk v h.1, trivial⟩
  case eptr j e' i o =>
    cases hb : Nat.beq j k
    · exact he
    · exact he.one
  case oview j e' lo =>
    cases hb : Nat.beq j k
    · exact he
    · exact he.one
  case lsl a x B =>
    cases hb : Nat.beq B k
    · exact he
    · exact he.one
theorem frL_ok : ∀ {l : List AV} {vs : List Value}, RepL E w vs l → RepL (frE E k) w vs (frL k e xs l)
  | [], [], _ => trivial
  | x :: r, v :: vs, h => ⟨frA_ok hk h.1, frL_ok h.2⟩
theorem frC_ok {v : Value} {c : CV} (h : RepC E w v c) : RepC (frE E k) w v (frC k e xs c) := by
  cases c with
  | one x => exact frA_ok hk h
  | agg l => obtain ⟨cs, e, hl⟩ := h; exact ⟨cs, e, frL_ok hk hl⟩
theorem frCs_ok : ∀ {l : List CV} {vs : List Value}, All2 (RepC E w) vs l → All2 (RepC (frE E k) w) vs (frCs k e xs l)
  | [], [], _ => trivial
  | x :: r, v :: vs, h => ⟨frC_ok hk h.1, frCs_ok h.2⟩
theorem frT_ok {v : Value} {c : TV} (h : RepT E w v c) : RepT (frE E k) w v (frT k e xs c) := by
  cases c with
  | bad => trivial
  | cv c => exact frC_ok hk h
  | tup l => obtain ⟨vs, e, hl⟩ := h; exact ⟨vs, e, frCs_ok hk hl⟩
theorem frM_ok : ∀ {l : List (Int × AV)} {vs : List MapEntry}, All2 (fun (m : MapEntry) (x : Int × AV) => m.key = .int .i64 x.1 ∧ RepA E w m.val x.2) vs l → All2 (fun (m : MapEntry) (x : Int × AV) => m.key = .int .i64 x.1 ∧ RepA (frE E k) w m.val x.2) vs (frM k e xs l)
  | [], [], _ => trivial
  | (i, x) :: r, v :: vs, h => ⟨⟨h.1.1, frA_ok hk h.1.2⟩, frM_ok h.2⟩
theorem frTs_ok : ∀ {l : List (Nat × TV)} (t : Nat) {v : Value}, RepT E w v (lk l t) → RepT (frE E k) w v (lk (frTs k e xs l) t)
  | [], t, v, h => trivial
  | (u, x) :: r, t, v, h => by
    simp only [frTs, lk] at h ⊢
    cases hb : Nat.beq u t
    · rw [hb] at h; exact frTs_ok t h
    · rw [hb] at h; exact frT_ok hk h
theorem frS_ok {j : Nat} {s : Sl} {c : List AV} (h : SlotOk E w j s c) : SlotOk (frE E k) w j (frS k e xs s) (frL k e xs c) := by
  cases s with
  | box n =>
    obtain ⟨b, cs, ty, h1, h2, h3, h4⟩ := h
    have h5 := frL_ok hk h4
    exact ⟨b, cs, ty, h1, h2, by rw [← h5.len, h4.len]; exact h3, h5⟩
  | map es => obtain ⟨b, ents, cl, h1, h2, h3⟩ := h; exact ⟨b, ents, cl, h1, h2, frM_ok hk h3⟩
  | dm va K V xs => exact h
  | none => exact h
  | dead => trivial
  | buf et e xs => obtain ⟨v, inner, h1, h2, h3⟩ := h; exact ⟨v, inner, h1, h2, h3.imp (fun _ _ => RepD.evo fr_evo)⟩
  | frz e xs => obtain ⟨v, h1, h2⟩ := h; exact ⟨v, h1, h2.evo fr_evo⟩
  | lnk et a b l B i =>
    simp only [frS]
    obtain ⟨v, vB, i1, c1, i2, x, h1, h2, h3, h4, h5, h6, h7, h8⟩ := h
    cases hb : Nat.beq B k
    · exact ⟨v, vB, i1, c1, i2, x, h1, h2, h3, h4, h5, h6.imp (fun _ _ => RepD.evo fr_evo), h7.evo fr_evo, h8.imp (fun _ _ => RepD.evo fr_evo)⟩
    · rw [cond_true]
      have hb := Nat.eq_of_beq_eq_true hb
      subst hb
      unfold cstS
      split
      · rename_i he
        subst he
        have hil : i < l.length := (List.getElem?_eq_some_iff.1 h5).1
        have hd : lnkd l i xs = l.take i ++ (x.1, xs) :: l.drop (i + 1) := by
          unfold lnkd
          rw [h5]
          simp only
          rw [List.set_eq_take_append_cons_drop, if_pos hil]
        have hlen : (lnkd l i xs).length = l.length := by rw [hd]; simp; omega
        refine ⟨v, i1 ++ (c1 ++ [vB]) ++ i2, h1, by rw [hlen]; exact h4, ?_⟩
        show El (RepD (frE E B).F w (.pair a (.slice e))) (lnkd l i xs) _
        rw [hd, List.append_assoc]
        exact (h6.imp (fun _ _ => RepD.evo fr_evo)).app ⟨c1 ++ [vB], i2, rfl, ⟨c1, [vB], rfl, h7.evo fr_evo, hk vB h2⟩, h8.imp (fun _ _ => RepD.evo fr_evo)⟩
      · trivial
end
theorem frH_get (k : Nat) (e : Ty) (xs : List e.T) : ∀ (h : Heap) (i j : Nat), hg (frH k e xs i h) j = if j < h.length then (cond (Nat.beq (i + j) k) .dead (frS k e xs (hg h j).1), frL k e xs (hg h j).2) else (.none, [])
  | [], i, j => by simp [frH, hg]
  | (s, c) :: r, i, 0 => by simp [frH, hg]
  | (s, c) :: r, i, j + 1 => by
    have := frH_get k e xs r (i + 1) j
    simp only [frH, hg, this, List.length_cons]
    have h1 : i + 1 + j = i + (j + 1) := by omega
    rw [h1]
    by_cases hj : j < r.length
    · rw [if_pos hj, if_pos (by omega)]
    · rw [if_neg hj, if_neg (by omega)]
theorem freeze_inv {k : Nat} (hI : Inv F0 w0 E σ a w) (h : freeze1 k σ = some τ) : Inv F0 w0 (frE E k) τ a w := by
  unfold freeze1 at h
  split at h
  · rename_i et e xs hs
    obtain rfl := Option.some.inj h
    have hkl : k < σ.heap.length := hg_lt (by rw [hs]; simp)
    have hslot := hI.heap.slot k
    rw [hs] at hslot
    obtain ⟨u, inner, g1, g2, g3⟩ := hslot
    have hk : ∀ v, E.γ k = some v → RepD (frE E k).F w (.slice e) xs [v] := by
      intro v hv
      rw [g1] at hv
      obtain rfl := Option.some.inj hv
      have h3' := g3.imp (fun _ _ => RepD.evo (fr_evo (k := k)))
      rcases g2 with ⟨A, e1, e2, e3⟩ | ⟨g, cap, cur, e1, e2, e3, e4, e5, e6, e7⟩
      · refine ⟨A, 0, inner, by rw [e1, e2], by omega, h3', fun j u hu => by rw [e3] at hu; simp at hu⟩
      · refine ⟨some ⟨g, 0, none⟩, cap, inner, by rw [e1], e4, h3', fun j u hu => ⟨g, 0, rfl, .inr ⟨0, xs.length, cap, by rw [g1, e1], e2⟩, ?_⟩⟩
        rw [cell_of_row _ _ _ _ _ _ e3, Nat.zero_add]
        rw [← e7, List.getElem?_take] at hu
        split at hu
        · simpa using hu
        · cases hu
    have hlv : ∀ j b, Live (frE E k) j (hg (frH k e xs 0 σ.heap) j).1 b → j ≠ k ∧ Live E j (hg σ.heap j).1 b := by
      intro j b hl
      rw [frH_get] at hl
      by_cases hj : j < σ.heap.length
      · rw [if_pos hj, Nat.zero_add] at hl
        cases hb : Nat.beq j k
        · rw [hb] at hl
          refine ⟨beq_ne hb, ?_⟩
          cases hsl : (hg σ.heap j).1 <;> rw [hsl] at hl
          case lnk et a b l B i =>
            simp only [cond_false, frS] at hl
            cases hB : Nat.beq B k
            · rw [hB] at hl; exact hl
            · rw [hB, cond_true] at hl
              unfold cstS at hl
              split at hl
              · exact hl
              · exact hl.elim
          all_goals exact hl
        · rw [hb] at hl; exact hl.elim
      · rw [if_neg hj] at hl; exact hl.elim
    have hkF : ∀ b, (frE E k).F b → ¬ E.F b → Live E k (hg σ.heap k).1 b := by
      intro b hb hn
      rcases hb with hb | ⟨o, m, c, h1, h2⟩
      · exact absurd hb hn
      · rw [hs]; exact ⟨o, m, c, h1, h2⟩
    refine ⟨hI.nt, hI.df, fun t => frTs_ok hk t (hI.tmp t), ⟨hI.heap.below, fun j => ?_, fun j b hl => ?_, fun j j' b hl hl' => ?_, fun b hb => ?_, fun b hb => ?_, fun b hb => .inl (hI.heap.sup b hb), hI.heap.gl⟩⟩
    · simp only
      rw [frH_get]
      by_cases hj : j < σ.heap.length
      · rw [if_pos hj, Nat.zero_add]
        cases hb : Nat.beq j k
        · exact frS_ok hk (hI.heap.slot j)
        · trivial
      · rw [if_neg hj]
        have := hI.heap.slot j
        rw [hg_eq, List.getElem?_eq_none (by omega)] at this
        exact this
    · obtain ⟨h1, h2⟩ := hlv j b hl
      obtain ⟨q1, q2, q3⟩ := hI.heap.own j b h2
      refine ⟨q1, q2, fun hF => ?_⟩
      exact h1 (hI.heap.inj j k b h2 (hkF b hF q3))
    · exact hI.heap.inj j j' b (hlv j b hl).2 (hlv j' b hl').2
    · by_cases hF : E.F b
      · exact hI.heap.fz b hF
      · exact (hI.heap.own k b (hkF b hb hF)).2.1
    · by_cases hF : E.F b
      · exact hI.heap.sub b hF
      · exact .inr (hI.heap.own k b (hkF b hb hF)).1
  · cases h
def freezes : List Nat → St → Option St
  | [], σ => some σ
  | k :: r, σ => match freeze1 k σ with
    | some τ => freezes r τ
    | none => none
theorem freezes_inv : ∀ {l : List Nat} {σ τ : St} {E : En}, Inv F0 w0 E σ a w → freezes l σ = some τ → ∃ E', Inv F0 w0 E' τ a w ∧ Evo E w E' w
  | [], σ, τ, E, hI, h => by obtain rfl := Option.some.inj h; exact ⟨E, hI, Evo.refl E w⟩
  | k :: r, σ, τ, E, hI, h => by
    unfold freezes at h
    split at h
    · rename_i τ' hτ
      obtain ⟨E', h1, h2⟩ := freezes_inv (freeze_inv hI hτ) h
      exact ⟨E', h1, fr_evo.trans h2⟩
    · cases h
-- how a value is told
inductive Dir where
  | keep
  | any
  | sl (e : Ty)
  | bad
def adA : Dir → AV → AV
  | .any, .sl e xs _ => .sl e xs .any
  | .sl e, .nils => .sl e [] .any
  | .sl _, .sl e xs _ => .sl e xs .any
  | .bad, _ => .bad
  | _, x => x
def adL : Dir → List AV → List AV
  | _, [] => []
  | d, x :: r => adA d x :: adL d r
def adT : Dir → TV → TV
  | d, .cv (.one x) => .cv (.one (adA d x))
  | d, .cv (.agg l) => .cv (.agg (adL d l))
  | _, x => x
theorem adA_ok {d : Dir} {v : Value} {x : AV} (h : RepA E w v x) : RepA E w v (adA d x) := by
  unfold adA
  split
  · exact ⟨h.1, trivial⟩
  · have h : v = .slice none 0 0 := h
    subst h
    exact ⟨⟨none, 0, [], rfl, Nat.le_refl _, rfl, fun j u hu => by simp at hu⟩, trivial⟩
  · exact ⟨h.1, trivial⟩
  · exact h.one
  · exact h
theorem adL_ok {d : Dir} : ∀ {l : List AV} {vs : List Value}, RepL E w vs l → RepL E w vs (adL d l)
  | [], [], _ => trivial
  | x :: r, v :: vs, h => ⟨adA_ok h.1, adL_ok h.2⟩
theorem adT_ok {d : Dir} {v : Value} {x : TV} (h : RepT E w v x) : RepT E w v (adT d x) := by
  unfold adT
  split
  · exact adA_ok (v := v) h
  · obtain ⟨cs, e, hl⟩ := h; exact ⟨cs, e, adL_ok hl⟩
  · exact h
inductive Adj where
  | tmp (t : Nat) (d : Dir)
  | cell (k o : Nat) (d : Dir)
  | slot (k : Nat) (d : Dir)
  | ownT (t k et : Nat) (e : Ty)
  | ownC (j o k et : Nat) (e : Ty)
def adj1 (σ : St) : Adj → Option St
  | .tmp t d => cond (Nat.blt t σ.nt) (some (σ.ap (.tmp t (adT d (lk σ.tmps t))))) none
  | .cell k o d => match (hg σ.heap k).1 with
    | .box n => cond (Nat.blt o n) (some (σ.ap (.cell k o (adA d (ng (hg σ.heap k).2 o))))) none
    | _ => none
  | .slot k d => match (hg σ.heap k).1 with
    | .box n => some (σ.ap (.slot k (.box n) (adL d (hg σ.heap k).2)))
    | _ => none
  | .ownT t k et e => match lk σ.tmps t, (hg σ.heap k).1 with
    | .cv (.one .nils), .none => cond (Nat.blt t σ.nt && Nat.blt k σ.heap.length) (some ((σ.ap (.slot k (.buf et e []) [])).ap (.tmp t (.cv (.one (.own k)))))) none
    | _, _ => none
  | .ownC j o k et e => match (hg σ.heap j).1, ng (hg σ.heap j).2 o, (hg σ.heap k).1 with
    | .box n, .nils, .none => cond (Nat.blt o n && Nat.blt k σ.heap.length) (some ((σ.ap (.slot k (.buf et e []) [])).ap (.cell j o (.own k)))) none
    | _, _, _ => none
theorem cell_again (hI : InvH F0 w0 E σ.heap w) {k n o : Nat} (hs : (hg σ.heap k).1 = .box n) (ho : o < n) {y : AV} (hy : ∀ v, RepA E w v (ng (hg σ.heap k).2 o) → RepA E w v y) : InvH F0 w0 E (σ.ap (.cell k o y)).heap w := by
  have hkl : k < σ.heap.length := hg_lt (by rw [hs]; simp)
  have hslot := hI.slot k
  rw [hs] at hslot
  obtain ⟨b, cs, ty, h1, h2, h3, h4⟩ := hslot
  have hlen := h4.len
  rw [Array.length_toList] at hlen
  simp only [St.ap, hs, ns_eq]
  refine hI.upd hkl (Evo.refl E w) (fun _ _ => rfl) (fun _ _ => rfl) (Below.refl _ w) (fun _ _ _ _ => rfl) hI.fz hI.sub (fun j _ b hl => (hI.own j b hl).2.2) (s := .box n) ⟨b, cs, ty, h1, h2, by simpa using h3, ?_⟩ (fun q hq => hI.own k q (by rw [hs]; exact hq)) (fun j hj q hl hq => hj (hI.inj j k q hl (by rw [hs]; exact hq)))
  have hol : o < (hg σ.heap k).2.length := by omega
  have hget : ng (hg σ.heap k).2 o = (hg σ.heap k).2[o] := by rw [ng_eq, List.getElem?_eq_getElem hol]; rfl
  obtain ⟨v, hv, hr⟩ := h4.get (i := o) (b := (hg σ.heap k).2[o]) (List.getElem?_eq_getElem hol)
  have hset := h4.set (a := v) (b := y) (hy v (by rw [hget]; exact hr)) o
  have : cs.toList.set o v = cs.toList := by
    have hlt := (List.getElem?_eq_some_iff.1 hv).1
    rw [← (List.getElem?_eq_some_iff.1 hv).2]
    exact List.set_getElem_self hlt
  rw [this] at hset
  exact hset
theorem own_nil (hI : InvH F0 w0 E σ.heap w) {k et : Nat} {e : Ty} (hk : k < σ.heap.length) (hn : (hg σ.heap k).1 = .none) : ∃ E', InvH F0 w0 E' (σ.ap (.slot k (.buf et e []) [])).heap w ∧ Evo E w E' w ∧ E'.γ k = some (.slice none 0 0) := by
  obtain ⟨E', h1, h2, h3⟩ := own_same (et := et) (τ := e) (xs := []) (v := .slice none 0 0) (inner := []) hI hk hn (.inl ⟨none, rfl, rfl, rfl⟩) rfl (fun b o n c h => by cases h)
  exact ⟨E', h1, h2, h3⟩
theorem adj1_inv (hI : Inv F0 w0 E σ a w) {x : Adj} (h : adj1 σ x = some τ) : ∃ E', Inv F0 w0 E' τ a w ∧ Evo E w E' w := by
  cases x with
  | tmp t d =>
    simp only [adj1] at h
    cases hb : Nat.blt t σ.nt
    · rw [hb] at h; cases h
    · rw [hb] at h
      obtain rfl := Option.some.inj h
      refine ⟨E, ⟨hI.nt, hI.df, fun u => ?_, hI.heap⟩, Evo.refl E w⟩
      simp only [St.ap, lk_pt]
      by_cases e : t = u
      · subst e; rw [if_pos rfl]; exact adT_ok (hI.tmp t)
      · rw [if_neg e]; exact hI.tmp u
  | cell k o d =>
    simp only [adj1] at h
    split at h
    · rename_i n hs
      cases hb : Nat.blt o n
      · rw [hb] at h; cases h
      · rw [hb] at h
        obtain rfl := Option.some.inj h
        exact ⟨E, hI.evo (Evo.refl E w) (cell_again hI.heap hs (Nat.le_of_ble_eq_true hb) (fun v hv => adA_ok hv)), Evo.refl E w⟩
    · cases h
  | slot k d =>
    simp only [adj1] at h
    split at h
    · rename_i n hs
      obtain rfl := Option.some.inj h
      have hkl : k < σ.heap.length := hg_lt (by rw [hs]; simp)
      have hslot := hI.heap.slot k
      rw [hs] at hslot
      obtain ⟨b, cs, ty, h1, h2, h3, h4⟩ := hslot
      refine ⟨E, hI.evo (Evo.refl E w) (hI.heap.upd hkl (Evo.refl E w) (fun _ _ => rfl) (fun _ _ => rfl) (Below.refl _ w) (fun _ _ _ _ => rfl) hI.heap.fz hI.heap.sub (fun j _ b hl => (hI.heap.own j b hl).2.2) (s := .box n) ⟨b, cs, ty, h1, h2, ?_, adL_ok h4⟩ (fun q hq => hI.heap.own k q (by rw [hs]; exact hq)) (fun j hj q hl hq => hj (hI.heap.inj j k q hl (by rw [hs]; exact hq)))), Evo.refl E w⟩
      rw [← (adL_ok (d := d) h4).len, h4.len]
      exact h3
    · cases h
  | ownT t k et e =>
    simp only [adj1] at h
    split at h
    · rename_i hl hn
      cases hb : (Nat.blt t σ.nt && Nat.blt k σ.heap.length)
      · rw [hb] at h; cases h
      · rw [hb] at h
        simp only [Bool.and_eq_true] at hb
        obtain rfl := Option.some.inj h
        obtain ⟨E', h1, h2, h3⟩ := own_nil (et := et) (e := e) hI.heap (Nat.le_of_ble_eq_true hb.2) hn
        have hI' := hI.evo h2 h1
        have ht := hI.tmp t
        rw [hl] at ht
        have ht : a.tmps.getD t undef = .slice none 0 0 := ht
        refine ⟨E', ⟨hI'.nt, hI'.df, fun u => ?_, hI'.heap⟩, h2⟩
        simp only [St.ap, lk_pt]
        by_cases e : t = u
        · subst e; rw [if_pos rfl, ht]; exact ⟨h3, _, _, _, rfl⟩
        · rw [if_neg e]; exact hI'.tmp u
    · cases h
  | ownC j o k et e =>
    simp only [adj1] at h
    split at h
    · rename_i n hs hnl hn
      cases hb : (Nat.blt o n && Nat.blt k σ.heap.length)
      · rw [hb] at h; cases h
      · rw [hb] at h
        simp only [Bool.and_eq_true] at hb
        obtain rfl := Option.some.inj h
        have hkl := Nat.le_of_ble_eq_true hb.2
        obtain ⟨E', h1, h2, h3⟩ := own_nil (et := et) (e := e) hI.heap hkl hn
        have hI' := hI.evo h2 h1
        have hjk : k ≠ j := by rintro rfl; rw [hn] at hs; cases hs
        have hg' : hg (σ.ap (.slot k (.buf et e []) [])).heap j = hg σ.heap j := by simp only [St.ap]; rw [hg_hs' _ _ _ _ hjk]
        have hI2 : Inv F0 w0 E' (σ.ap (.slot k (.buf et e []) [])) a w := hI'
        refine ⟨E', hI2.evo (Evo.refl E' w) (cell_again hI2.heap (n := n) (by rw [hg']; exact hs) (Nat.le_of_ble_eq_true hb.1) (fun v hv => ?_)), h2⟩
        rw [hg', hnl] at hv
        have hv : v = .slice none 0 0 := hv
        rw [hv]
        exact ⟨h3, _, _, _, rfl⟩
    · cases h
def adjs : List Adj → St → Option St
  | [], σ => some σ
  | x :: r, σ => match adj1 σ x with
    | some τ => adjs r τ
    | none => none
theorem adjs_inv : ∀ {l : List Adj} {σ τ : St} {E : En}, Inv F0 w0 E σ a w → adjs l σ = some τ → ∃ E', Inv F0 w0 E' τ a w ∧ Evo E w E' w
  | [], σ, τ, E, hI, h => by obtain rfl := Option.some.inj h; exact ⟨E, hI, Evo.refl E w⟩
  | x :: r, σ, τ, E, hI, h => by
    unfold adjs at h
    split at h
    · rename_i τ' hτ
      obtain ⟨E1, h1, h2⟩ := adj1_inv hI hτ
      obtain ⟨E2, h3, h4⟩ := adjs_inv h1 h
      exact ⟨E2, h3, h2.trans h4⟩
    · cases h
/-- How a state is told anew: slices that are written no more, slots that are added, values told otherwise, what is left. -/
structure Tell where
  fz : List Nat := []
  gr : Nat := 0
  ad : List Adj := []
  live : List Nat
  src : List (Option Nat)
def tell (t : Tell) (σ : St) : Option St := match freezes t.fz σ with
  | none => none
  | some σ => match adjs t.ad (gro t.gr σ) with
    | none => none
    | some σ => cond (nodupS t.src) (some (norm t.live t.src σ)) none
theorem tell_inv {t : Tell} (hn : idN t.src n = true) (hI : Inv F0 w0 E σ a w) (h : tell t σ = some τ) : ∃ E', Inv F0 w0 E' τ a w ∧ EvoN n E w E' w := by
  unfold tell at h
  split at h
  · cases h
  · rename_i σ1 h1
    split at h
    · cases h
    · rename_i σ2 h2
      cases hd : nodupS t.src
      · rw [hd] at h; cases h
      · rw [hd] at h
        obtain rfl := Option.some.inj h
        obtain ⟨E1, i1, v1⟩ := freezes_inv hI h1
        obtain ⟨E2, i2, v2⟩ := adjs_inv (gro_inv i1 t.gr) h2
        exact ⟨_, norm_inv i2 t.live hd, (EvoN.of (v1.trans v2)).trans (norm_evo hn)⟩
theorem W_tell (t : Tell) (h : tell t σ = some τ) (hn : idN t.src n = true) (hW : W P n c τ Φ) : W P n c σ Φ := fun F0 w0 E a w hI => by
  obtain ⟨E', i, v⟩ := tell_inv hn hI h
  exact wp_mono (hW F0 w0 E' a w i) fun e a' w' hp => hp.trans v
theorem WL_tell {m : Nat} (t : Tell) (h : tell t σ = some τ) (hn : idN t.src n = true) (hW : WL P n c Φ m τ) : WL P n c Φ m σ := fun F0 w0 E a w hI => by
  obtain ⟨E', i, v⟩ := tell_inv hn hI h
  exact rounds_mono (fun e a' w' hp => hp.trans v) (hW F0 w0 E' a w i)
theorem D_nil {t : Nat} {e : Ty} {xs : List e.T} {τ1 τ2 : St} (ht : lk σ.tmps t = .cv (.one (.sl e xs .any))) (e1 : σ.ap (.tmp t (.cv (.one (.sl e xs .nl)))) = τ1) (e2 : σ.ap (.tmp t (.cv (.one (.sl e xs .nn)))) = τ2) (h1 : xs = [] → W P n c τ1 Φ) (h2 : W P n c τ2 Φ) : W P n c σ Φ := fun F0 w0 E a w hI => by
  subst e1 e2
  have hr := hI.tmp t
  rw [ht] at hr
  have hr : RepD E.F w (.slice e) xs [a.tmps.getD t undef] ∧ True := hr
  have key : ∀ c : Cap, CapOk c (a.tmps.getD t undef) → Inv F0 w0 E (σ.ap (.tmp t (.cv (.one (.sl e xs c))))) a w := fun c hc => ⟨hI.nt, hI.df, fun u => by
    simp only [St.ap, lk_pt]
    by_cases eu : t = u
    · subst eu; rw [if_pos rfl]; exact ⟨hr.1, hc⟩
    · rw [if_neg eu]; exact hI.tmp u, hI.heap⟩
  obtain ⟨A, c, inner, ev, hc, hin, hread⟩ := hr.1
  have ev := List.singleton_inj.1 ev
  cases A with
  | none =>
    have hx : xs = [] := by
      have hl := hin.len (s := e.sz) (fun _ _ h => h.len)
      by_cases h0 : 0 < inner.length
      · obtain ⟨b, o, h, _⟩ := hread 0 inner[0] (List.getElem?_eq_getElem h0)
        cases h
      · have hp := e.sz_pos
        have h1 : xs.length * e.sz = 0 := by omega
        rcases Nat.mul_eq_zero.1 h1 with h | h
        · exact List.length_eq_zero_iff.1 h
        · omega
    exact h1 hx F0 w0 E a w (key .nl ⟨_, _, ev⟩)
  | some A => exact h2 F0 w0 E a w (key .nn ⟨_, _, _, ev⟩)
-- code by its place
def Code.l : Code → Code
  | .seq a _ => a
  | .cond _ a _ => a
  | .block _ b => b
  | .loop b => b
  | .scope b => b
  | c => c
def Code.r : Code → Code
  | .seq _ b => b
  | .cond _ _ b => b
  | c => c
def isSeq : Code → Bool
  | .seq _ _ => true
  | _ => false
theorem D_seq (hc : isSeq c = true) (h : W P n (Code.l c) σ (thenW P n (Code.r c) Φ)) : W P n c σ Φ := by
  match c, hc, h with
  | .seq _ _, _, h => exact W_seq h
def isBlock : Code → Option Nat
  | .block i _ => some i
  | _ => none
theorem D_block {id : Nat} (hc : isBlock c = some id) (h : W P n (Code.l c) σ (blockW id Φ)) : W P n c σ Φ := by
  match c, hc, h with
  | .block i b, hc, h => obtain rfl := Option.some.inj hc; exact W_block h
def isLoop : Code → Bool
  | .loop _ => true
  | _ => false
theorem D_loop (hc : isLoop c = true) (m : Nat) (h : WL P n (Code.l c) Φ m σ) : W P n c σ Φ := by
  match c, hc, h with
  | .loop _, _, h => exact W_loop m h
def regD (V : Env) (g : Nat) (hs : List (Nat × Hint)) (t : Tell) (c : Code) (σ : St) : Option (List Prop × St) := match c with
  | .region _ ops draw => match reg V ops draw hs (gro g σ) with
    | some (cs, τ) => match tell t τ with
      | some τ => some (cs, τ)
      | none => none
    | none => none
  | _ => none
theorem D_reg0 (hV : EnvOk P V) (g : Nat) (hs : List (Nat × Hint)) (t : Tell) {cs : List Prop} (h : regD V g hs t c σ = some (cs, τ)) (hn : idN t.src n = true) (hc : AllP cs) (hΦ : ∀ F0 w0 E a w, Inv F0 w0 E τ a w → Φ .normal τ) : W P n c σ Φ := by
  unfold regD at h
  split at h
  · split at h
    · rename_i cs' τ1 hr
      split at h
      · rename_i τ2 ht
        simp only [Option.some.injEq, Prod.mk.injEq] at h
        obtain ⟨rfl, rfl⟩ := h
        intro F0 w0 E a w hI
        refine wp_mono (W_region (n := n) (Φ := fun e σ' => e = .normal ∧ σ' = τ1) hV hr hc ⟨rfl, rfl⟩ F0 w0 E a w (gro_inv hI g)) ?_
        rintro e a' w' ⟨σ', E', ⟨rfl, rfl⟩, hI', he⟩
        obtain ⟨E'', i, v⟩ := tell_inv hn hI' ht
        exact ⟨_, E'', hΦ _ _ _ _ _ i, i, he.trans v⟩
      · cases h
    · cases h
  · cases h
theorem D_reg (hV : EnvOk P V) (g : Nat) (hs : List (Nat × Hint)) (t : Tell) {cs : List Prop} (h : regD V g hs t c σ = some (cs, τ)) (hn : idN t.src n = true) (hc : AllP cs) (hΦ : Φ .normal τ) : W P n c σ Φ :=
  D_reg0 hV g hs t h hn hc (fun _ _ _ _ _ _ => hΦ)
def condT : Code → Option Nat
  | .cond (.tmp t) _ _ => some t
  | _ => none
theorem D_condT {t : Nat} (hc : condT c = some t) (hb : lk σ.tmps t = .cv (.one (.bool true))) (h : W P n (Code.l c) σ Φ) : W P n c σ Φ := by
  unfold condT at hc
  split at hc
  · obtain rfl := Option.some.inj hc; exact W_condT hb h
  · cases hc
theorem D_condF {t : Nat} (hc : condT c = some t) (hb : lk σ.tmps t = .cv (.one (.bool false))) (h : W P n (Code.r c) σ Φ) : W P n c σ Φ := by
  unfold condT at hc
  split at hc
  · obtain rfl := Option.some.inj hc; exact W_condF hb h
  · cases hc
theorem D_condB {t : Nat} {b : Bool} (hc : condT c = some t) (hb : lk σ.tmps t = .cv (.one (.bool b))) (h : b = true → W P n (Code.l c) σ Φ) (h' : b = false → W P n (Code.r c) σ Φ) : W P n c σ Φ := by
  unfold condT at hc
  split at hc
  · obtain rfl := Option.some.inj hc; exact W_condB hb h h'
  · cases hc
def isExit : Code → Option Nat
  | .exit i => some i
  | _ => none
theorem D_exit {id : Nat} (hc : isExit c = some id) (h : Φ (.exit id) σ) : W P n c σ Φ := by
  match c, hc, h with
  | .exit i, hc, h => obtain rfl := Option.some.inj hc; exact W_exit h
def isRet : Code → Bool
  | .ret => true
  | _ => false
theorem D_ret (hc : isRet c = true) (h : Φ .ret σ) : W P n c σ Φ := by
  match c, hc, h with
  | .ret, _, h => exact W_ret h
def isSkip : Code → Bool
  | .skip => true
  | .label _ => true
  | _ => false
theorem D_skip (hc : isSkip c = true) (h : Φ .normal σ) : W P n c σ Φ := by
  match c, hc, h with
  | .skip, _, h => exact W_skip h
  | .label _, _, h => exact W_label h
theorem th_n (h : W P n d τ Φ) : thenW P n d Φ .normal τ := h
theorem th_x {id : Nat} (h : Φ (.exit id) τ) : thenW P n d Φ (.exit id) τ := h
theorem th_r (h : Φ .ret τ) : thenW P n d Φ .ret τ := h
theorem bl_n {id : Nat} (h : Φ .normal τ) : blockW id Φ .normal τ := h
theorem bl_r {id : Nat} (h : Φ .ret τ) : blockW id Φ .ret τ := h
theorem bl_h {id : Nat} (h : Φ .normal τ) : blockW id Φ (.exit id) τ := by show (if id = id then _ else _); rw [if_pos rfl]; exact h
theorem bl_x {id j : Nat} (hj : Nat.beq j id = false) (h : Φ (.exit j) τ) : blockW id Φ (.exit j) τ := by show (if j = id then _ else _); rw [if_neg (beq_ne hj)]; exact h
theorem ro_n {m : Nat} (h : WL P n c Φ m τ) : roundW P n c Φ m .normal τ := h
theorem ro_x {m id : Nat} (h : Φ (.exit id) τ) : roundW P n c Φ m (.exit id) τ := h
theorem ro_r {m : Nat} (h : Φ .ret τ) : roundW P n c Φ m .ret τ := h
end
end Go.Proofs.YtkhjemahenkdiaaGreatDoor.V
