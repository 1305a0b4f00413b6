/- What a variable that is laid holds, when the call begins. -/
import Derived.Test.YtkhjemahenkdiaaGreatDoorVZ
import Derived.LaidLaws
import Derived.LaidMore
import Derived.LaidSub
import Derived.OpenShut
namespace Go.Proofs.YtkhjemahenkdiaaGreatDoor.V
open Go Go.RowKit
set_option linter.unusedVariables false
set_option linter.unusedSimpArgs false
def valsF : Nat → DataW Unit → List Value
  | 0, _ => []
  | _ + 1, .lit (.int k n) => [.int k n]
  | _ + 1, .lit (.bool b) => [.bool b]
  | d + 1, .agg l => l.flatMap (valsF d)
  | _ + 1, _ => []
/-- Fields that stand one behind the other, and fill the whole. -/
def contig : Nat → List (Nat × Nat) → Nat → Bool
  | o, [], n => Nat.beq o n
  | o, (a, l) :: r, n => Nat.beq a o && contig (o + l) r n
theorem cat_contig {cs : List Value} : ∀ {g : List (Nat × Nat)} {o : Nat}, contig o g cs.length = true → cs.drop o = g.flatMap fun x => (cs.drop x.1).take x.2
  | [], o, h => by
    obtain rfl := Nat.eq_of_beq_eq_true h
    simp
  | (a, l) :: r, o, h => by
    simp only [contig, Bool.and_eq_true] at h
    obtain rfl := Nat.eq_of_beq_eq_true h.1
    rw [List.flatMap_cons, ← cat_contig h.2, ← List.drop_drop]
    exact (List.take_append_drop l _).symm
def plainT (P : Program) : Nat → Nat → Bool
  | 0, _ => false
  | d + 1, t => match P.underlying t with
    | some .bool => true
    | some (.int _) => true
    | some (.struct fs) => contig 0 (fs.toList.map fun f => (f.offset, P.cellsOf f.type)) (P.cellsOf t) && fs.toList.all fun f => plainT P d f.type
    | some (.array n e) => contig 0 ((List.range n).map fun i => (i * P.cellsOf e, P.cellsOf e)) (P.cellsOf t) && plainT P d e
    | _ => false
theorem flat_two {α : Type} (F : α → List Value) : ∀ (g : List (Nat × Nat)) (xs : List α) (cs : List Value), xs.length = g.length → (∀ (i : Nat) (x : Nat × Nat) (y : α), g[i]? = some x → xs[i]? = some y → (cs.drop x.1).take x.2 = F y) → (g.flatMap fun x => (cs.drop x.1).take x.2) = xs.flatMap F
  | [], [], cs, _, _ => rfl
  | x :: g, y :: xs, cs, hl, h => by
    rw [List.flatMap_cons, List.flatMap_cons, h 0 x y rfl rfl, flat_two F g xs cs (by simpa using hl) (fun i a b ha hb => h (i + 1) a b ha hb)]
  | [], _ :: _, _, h, _ => by simp at h
  | _ :: _, [], _, h, _ => by simp at h
theorem trod_vals {P : Program} {enc : TypeId × Value → Unit} {w : World} {sp : Nat → Bool} {held : Bool} : ∀ (d t fuel : Nat) (cs : List Value) (x : DataW Unit × List MemPlace), plainT P d t = true → DataW.trod enc P w 0 sp held fuel t cs = some x → cs = valsF d x.1
  | 0, t, fuel, cs, x, h, _ => by cases h
  | d + 1, t, fuel, cs, x, h, hx => by
    unfold plainT at h
    split at h
    · rename_i hu
      obtain ⟨b, rfl, rfl⟩ := DataW.trod_bool hu hx
      rfl
    · rename_i k hu
      obtain ⟨n, rfl, rfl, _⟩ := DataW.trod_int hu hx
      rfl
    · rename_i fs hu
      simp only [Bool.and_eq_true, List.all_eq_true] at h
      obtain ⟨xs, n, _, rfl, hl, hxl, hf⟩ := DataW.trod_struct hu hx
      have h1 := cat_contig (cs := cs) (o := 0) (g := fs.toList.map fun f => (f.offset, P.cellsOf f.type)) (by rw [hl]; exact h.1)
      rw [List.drop_zero] at h1
      have h2 : cs = xs.flatMap fun y => valsF d y.1 := by
        refine h1.trans (flat_two _ _ _ _ (by simp [hxl]) (fun i a b ha hb => ?_))
        rw [List.getElem?_map] at ha
        cases hfi : fs.toList[i]? with
        | none => rw [hfi] at ha; cases ha
        | some f =>
          rw [hfi] at ha
          obtain rfl := Option.some.inj ha
          have hfi' : fs[i]? = some f := by simpa using hfi
          have h3 := hf i f hfi'
          rw [hb] at h3
          exact trod_vals d f.type n _ b (h.2 f (List.mem_of_getElem? hfi)) h3
      show cs = (xs.map (·.1)).flatMap (valsF d)
      rw [List.flatMap_map]
      exact h2
    · rename_i n e hu
      simp only [Bool.and_eq_true] at h
      obtain ⟨xs, m, _, rfl, hl, hxl, hf⟩ := DataW.trod_array hu hx
      have h1 := cat_contig (cs := cs) (o := 0) (g := (List.range n).map fun i => (i * P.cellsOf e, P.cellsOf e)) (by rw [hl]; exact h.1)
      rw [List.drop_zero] at h1
      have h2 : cs = xs.flatMap fun y => valsF d y.1 := by
        refine h1.trans (flat_two _ _ _ _ (by simp [hxl]) (fun i a b ha hb => ?_))
        rw [List.getElem?_map] at ha
        by_cases hi : i < n
        · rw [List.getElem?_range hi] at ha
          obtain rfl := Option.some.inj ha
          have h3 := hf i hi
          rw [hb] at h3
          exact trod_vals d e m _ b h.2 h3
        · rw [List.getElem?_eq_none (by simpa using hi)] at ha; cases ha
      show cs = (xs.map (·.1)).flatMap (valsF d)
      rw [List.flatMap_map]
      exact h2
    · cases h
def litV : (t : Ty) → t.T → List Value
  | .int k, n => [.int k n]
  | .bool, b => [.bool b]
  | .slice _, _ => []
  | .pair a b, x => litV a x.1 ++ litV b x.2
theorem litV_ok {F : Nat → Prop} {w : World} : ∀ {t : Ty} {x : t.T}, flatT t = true → RepD F w t x (litV t x)
  | .int _, _, _ => rfl
  | .bool, _, _ => rfl
  | .slice _, _, h => by cases h
  | .pair a b, x, h => by
    simp only [flatT, Bool.and_eq_true] at h
    exact ⟨_, _, rfl, litV_ok h.1, litV_ok h.2⟩
theorem litVs_ok {F : Nat → Prop} {w : World} {t : Ty} (h : flatT t = true) : ∀ (xs : List t.T), El (RepD F w t) xs (xs.flatMap (litV t))
  | [] => rfl
  | x :: r => ⟨_, _, rfl, litV_ok h, litVs_ok h r⟩
/-- The one variable that is listed, out of the row's condition. -/
theorem globs_one {P : Program} {W : World} {nm : String} {D : DataW Unit} {t : Ty} {xs : List t.T} {ty : Nat} (hg0 : globs = [(0, ⟨t, xs⟩)]) (hL : laidMet P [(nm, D)] W) (h1 : P.globalNamed nm = some 0) (h2 : (P.globals[0]?).map (·.type) = some ty) (h3 : plainT P 9 ty = true) (h4 : valsF 9 D = xs.flatMap (litV t)) (h5 : flatT t = true) : Globs (fun b => b < W.heap.size) W := by
  obtain ⟨ps, ⟨g, t', cs, fuel, p, q, k1, k2, k3, k4, _, _⟩, _⟩ := hL
  obtain rfl := Option.some.inj (h1.symm.trans k1)
  obtain rfl := Option.some.inj (h2.symm.trans k2)
  have hc := trod_vals 9 ty fuel cs.toList (D, p) h3 k4
  refine ⟨fun b h => h, fun g τ ys e => ?_⟩
  rw [globAt, hg0] at e
  by_cases hg : g = 0
  · subst hg
    simp at e
    obtain ⟨rfl, e⟩ := e
    obtain rfl := eq_of_heq e
    refine ⟨_, litVs_ok h5 xs, fun j u hu => ?_⟩
    have hv := World.var?_cell k1 k3 j
    rw [← h4, ← hc] at hu
    have hcell : W.cell? ⟨0, j, none⟩ = some u := by rw [hv]; simpa using hu
    refine ⟨?_, hcell⟩
    unfold World.var? at k3
    rw [k1] at k3
    simp only [Option.bind_some] at k3
    split at k3
    · rename_i hh; exact (Array.getElem?_eq_some_iff.1 hh).1
    · cases k3
  · have : Nat.beq 0 g = false := by cases g <;> simp_all
    simp [this] at e
end Go.Proofs.YtkhjemahenkdiaaGreatDoor.V
