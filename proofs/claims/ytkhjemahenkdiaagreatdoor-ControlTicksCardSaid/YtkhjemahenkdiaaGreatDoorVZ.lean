/- What reads as data of a type, as a thing without memory. -/
import Derived.Test.YtkhjemahenkdiaaGreatDoorVY
import Derived.Deep.Slices
import Derived.DataReads
import Derived.ChangeArms
namespace Go.Proofs.YtkhjemahenkdiaaGreatDoor.V
open Go Go.RowKit
set_option linter.unusedVariables false
set_option linter.unusedSimpArgs false
def Wf : (t : Ty) → t.T → Prop
  | .int k, n => (Lit.int k n).wf = true
  | .bool, _ => True
  | .slice e, xs => xs.length ≤ maxLen ∧ ∀ x ∈ xs, Wf e x
  | .pair a b, x => Wf a x.1 ∧ Wf b x.2
def flsB (P : Program) (rec : Nat → Ty → Bool) : List Field → Nat → Ty → Bool
  | [], _, _ => false
  | [f], off, τ => f.offset == off && rec f.type τ
  | f :: g :: r, off, .pair a b => f.offset == off && rec f.type a && flsB P rec (g :: r) (off + a.sz) b
  | _ :: _ :: _, _, _ => false
def tyB (P : Program) : Nat → Nat → Ty → Bool
  | 0, _, _ => false
  | d + 1, t, τ => (P.cellsOf t == τ.sz) && match P.underlying t, τ with
    | some (.int k), .int k' => decide (k = k')
    | some .bool, .bool => true
    | some (.slice e), .slice τ' => tyB P d e τ'
    | some (.struct fs), τ => flsB P (tyB P d) fs.toList 0 τ
    | _, _ => false
section
variable {P : Program}
def Opens (P : Program) (t : Nat) (τ : Ty) : Prop := ∀ (H : Type) (enc : TypeId × Value → H) (w : World) (sp : Nat → Bool) (held : Bool) (fuel : Nat) (cs : List Value) (y : DataW H × List MemPlace),
    DataW.trod enc P w 0 sp held fuel t cs = some y → ∃ x : τ.T, RepD (fun b => b < w.heap.size) w τ x cs ∧ Wf τ x
theorem cells_at {w : World} {base : Nat} {a : Addr} {n : Nat} {cs : List Value} (h : w.cells? base a n = some cs) : cs.length = n ∧ ∀ i u, cs[i]? = some u → w.cell? (a.add i) = some u := by
  unfold World.cells? at h
  split at h
  · have hl : cs.length = n := by simpa using mapM_some_length h
    refine ⟨hl, fun i u hu => ?_⟩
    have hi : i < n := by rw [← hl]; exact (List.getElem?_eq_some_iff.1 hu).1
    rw [mapM_some_get h i i (List.getElem?_range hi), hu]
  · cases h
theorem cell_plain {w : World} {a : Addr} {u : Value} (h : w.cell? a = some u) : a.spot = none ∧ a.block < w.heap.size := by
  unfold World.cell? at h
  split at h
  · rename_i c e f hb
    refine ⟨?_, (Array.getElem?_eq_some_iff.1 hb).1⟩
    cases hs : a.spot with
    | none => rfl
    | some s => rw [hs] at h; simp at h
  · cases h
theorem el_of {α : Type} {R : α → List Value → Prop} {s : Nat} : ∀ (n : Nat) (f : Nat → α) (g : Nat → List Value), (∀ i, i < n → R (f i) (g i) ∧ (g i).length = s) → ∃ inner, El R ((List.range n).map f) inner ∧ inner.length = n * s ∧ ∀ i j u, i < n → j < s → inner[i * s + j]? = some u → (g i)[j]? = some u
  | 0, _, _, _ => ⟨[], by simp [El], by simp, fun i j u h => by omega⟩
  | n + 1, f, g, h => by
    obtain ⟨inner, h1, h2, h3⟩ := el_of (s := s) n (fun i => f (i + 1)) (fun i => g (i + 1)) (fun i hi => h (i + 1) (by omega))
    obtain ⟨k1, k2⟩ := h 0 (by omega)
    refine ⟨g 0 ++ inner, ?_, by rw [List.length_append, k2, h2, Nat.succ_mul, Nat.add_comm], fun i j u hi hj hu => ?_⟩
    · rw [List.range_succ_eq_map, List.map_cons, List.map_map]
      exact ⟨g 0, inner, rfl, k1, h1⟩
    · cases i with
      | zero =>
        rw [Nat.zero_mul, Nat.zero_add, List.getElem?_append_left (by omega)] at hu
        exact hu
      | succ i =>
        rw [List.getElem?_append_right (by rw [k2, Nat.succ_mul]; omega), k2] at hu
        exact h3 i j u (by omega) hj (by rw [← hu]; congr 1; rw [Nat.succ_mul]; omega)
theorem opens_fields {d : Nat} (ih : ∀ t τ, tyB P d t τ = true → P.cellsOf t = τ.sz ∧ Opens P t τ) {H : Type} {enc : TypeId × Value → H} {w : World} {sp : Nat → Bool} {held : Bool} {n : Nat} {cs : List Value} : ∀ (fs : List Field) (off : Nat) (τ : Ty), flsB P (tyB P d) fs off τ = true → cs.length = off + τ.sz →
    (∀ f ∈ fs, ∃ z, DataW.trod enc P w 0 sp held n f.type ((cs.drop f.offset).take (P.cellsOf f.type)) = some z) → ∃ x : τ.T, RepD (fun b => b < w.heap.size) w τ x (cs.drop off) ∧ Wf τ x
  | [], _, _, h, _, _ => by cases h
  | [f], off, τ, h, hl, hf => by
    simp only [flsB, Bool.and_eq_true, beq_iff_eq] at h
    obtain ⟨h1, h2⟩ := ih _ _ h.2
    obtain ⟨z, hz⟩ := hf f List.mem_cons_self
    obtain ⟨x, k1, k2⟩ := h2 _ _ _ _ _ _ _ _ hz
    rw [h.1, h1, List.take_of_length_le (by rw [List.length_drop]; omega)] at k1
    exact ⟨x, k1, k2⟩
  | f :: g :: r, off, .pair a b, h, hl, hf => by
    simp only [flsB, Bool.and_eq_true, beq_iff_eq] at h
    obtain ⟨h1, h2⟩ := ih _ _ h.1.2
    obtain ⟨z, hz⟩ := hf f List.mem_cons_self
    obtain ⟨x, k1, k2⟩ := h2 _ _ _ _ _ _ _ _ hz
    rw [h.1.1, h1] at k1
    obtain ⟨y, k3, k4⟩ := opens_fields ih (g :: r) (off + a.sz) b h.2 (by simp only [Ty.sz] at hl; omega) (fun f' hf' => hf f' (List.mem_cons_of_mem _ hf'))
    exact ⟨(x, y), ⟨(cs.drop off).take a.sz, cs.drop (off + a.sz), by rw [← List.drop_drop, List.take_append_drop], k1, k3⟩, k2, k4⟩
  | _ :: _ :: _, _, .int _, h, _, _ => by simp [flsB] at h
  | _ :: _ :: _, _, .bool, h, _, _ => by simp [flsB] at h
  | _ :: _ :: _, _, .slice _, h, _, _ => by simp [flsB] at h
theorem opens : ∀ (d t : Nat) (τ : Ty), tyB P d t τ = true → P.cellsOf t = τ.sz ∧ Opens P t τ
  | 0, _, _, h => by cases h
  | d + 1, t, τ, h => by
    simp only [tyB, Bool.and_eq_true, beq_iff_eq] at h
    obtain ⟨hsz, h⟩ := h
    refine ⟨hsz, fun H enc w sp held fuel cs y hy => ?_⟩
    split at h
    · rename_i k k' hu
      obtain rfl := of_decide_eq_true h
      obtain ⟨n, rfl, _, hw⟩ := DataW.trod_int hu hy
      exact ⟨n, rfl, hw⟩
    · rename_i hu
      obtain ⟨b, rfl, _⟩ := DataW.trod_bool hu hy
      exact ⟨b, rfl, trivial⟩
    · rename_i e τ' hu
      obtain ⟨hes, ho⟩ := opens d e τ' h
      rcases Go.Deep.open_slice hu hy with ⟨rfl, _⟩ | ⟨a, len, cap, m, n, D, Pl, rfl, _, hl, hm, hmm, _, hel⟩
      · exact ⟨[], ⟨none, 0, [], rfl, Nat.le_refl _, rfl, fun j u hu => by simp at hu⟩, by simp, by simp⟩
      · have hle : len ≤ m := by rw [hmm]; split <;> omega
        have hx : ∀ i, i < len → ∃ xc : τ'.T × List Value, RepD (fun b => b < w.heap.size) w τ' xc.1 xc.2 ∧ Wf τ' xc.1 ∧ ∀ j u, xc.2[j]? = some u → w.cell? (a.add (i * τ'.sz + j)) = some u := by
          intro i hi
          obtain ⟨c, hc, hr⟩ := hel i (by omega)
          obtain ⟨hcl, hcc⟩ := cells_at hc
          obtain ⟨x, hK, hw⟩ := ho H enc w sp held n c _ hr
          refine ⟨(x, c), hK, hw, fun j u hu => ?_⟩
          rw [← hes, ← Go.Deep.add_add]
          exact hcc j u hu
        haveI : Inhabited τ'.T := ⟨τ'.dflt⟩
        obtain ⟨f, hf⟩ := Go.Deep.choose_lt hx
        obtain ⟨inner, e1, e2, e3⟩ := el_of (R := RepD (fun b => b < w.heap.size) w τ') (s := τ'.sz) len (fun i => (f i).1) (fun i => (f i).2) (fun i hi => ⟨(hf i hi).1, (hf i hi).1.len⟩)
        have hcell : ∀ q u, inner[q]? = some u → w.cell? (a.add q) = some u := by
          intro q u hq
          have hp := τ'.sz_pos
          have hql := (List.getElem?_eq_some_iff.1 hq).1
          rw [e2] at hql
          have hi : q / τ'.sz < len := Nat.div_lt_of_lt_mul (by rw [Nat.mul_comm]; exact hql)
          have hdm := Nat.div_add_mod q τ'.sz
          rw [Nat.mul_comm] at hdm
          have := (hf _ hi).2.2 (q % τ'.sz) u (e3 _ _ u hi (Nat.mod_lt _ hp) (by rw [hdm]; exact hq))
          rw [hdm] at this
          exact this
        refine ⟨(List.range len).map fun i => (f i).1, ⟨some a, cap, inner, by simp, by simpa using hl, e1, fun j u hu => ?_⟩, by simp only [List.length_map, List.length_range]; omega, fun x hx2 => ?_⟩
        · have hc := hcell j u hu
          have h0 : 0 < inner.length := Nat.lt_of_le_of_lt (Nat.zero_le _) (List.getElem?_eq_some_iff.1 hu).1
          have hc0 := hcell 0 inner[0] (List.getElem?_eq_getElem h0)
          have hs : a.spot = none := by
            have := (cell_plain hc0).1
            unfold Addr.add at this
            simpa using this
          obtain ⟨ab, ao, asp⟩ := a
          obtain rfl : asp = none := hs
          have c2 := (cell_plain hc).2
          rw [Addr.add_plain] at hc c2
          exact ⟨ab, ao, rfl, c2, hc⟩
        · obtain ⟨i, hi, rfl⟩ := List.mem_map.1 hx2
          exact (hf i (by simpa using hi)).2.1
    · rename_i _ τ0 fs hu
      obtain ⟨xs, n, _, _, hl, hxl, hf⟩ := DataW.trod_struct hu hy
      obtain ⟨x, k1, k2⟩ := opens_fields (fun t τ h => opens d t τ h) (enc := enc) (w := w) (sp := sp) (held := held) (n := n) (cs := cs) fs.toList 0 _ h (by rw [hl, hsz]; omega) (fun f hfm => by
        obtain ⟨i, hi⟩ := List.getElem?_of_mem hfm
        rw [Array.getElem?_toList] at hi
        have hlt : i < xs.length := by rw [hxl]; exact (Array.getElem?_eq_some_iff.1 hi).1
        exact ⟨xs[i], by rw [hf i f hi, List.getElem?_eq_getElem hlt]⟩)
      rw [List.drop_zero] at k1
      exact ⟨x, k1, k2⟩
    · cases h
end
end Go.Proofs.YtkhjemahenkdiaaGreatDoor.V
