/- What reads as data of a type, with the size that the statement grants. -/
import Derived.Test.YtkhjemahenkdiaaDoorVZ
import Derived.SizedLaws
namespace Go.Proofs.YtkhjemahenkdiaaDoor.V
open Go Go.RowKit
set_option linter.unusedVariables false
set_option linter.unusedSimpArgs false
/-- A lower bound on a type's bytes. -/
def mb : Ty → Nat
  | .int .i64 => 8
  | .int _ => 1
  | .bool => 1
  | .slice _ => 24
  | .pair a b => mb a + mb b
def Sz : (t : Ty) → t.T → Prop
  | .int _, _ => True
  | .bool, _ => True
  | .slice e, xs => xs.length * mb e ≤ reachBytes ∧ ∀ x ∈ xs, Sz e x
  | .pair a b, x => Sz a x.1 ∧ Sz b x.2
def SzD {H : Type} (P : Program) (t : Nat) (d : DataW H) : Prop := (DataW.weights P t d).all (· ≤ reachBytes) = true
def tyS (P : Program) : Nat → Nat → Ty → Bool
  | 0, _, _ => false
  | d + 1, t, τ => (P.cellsOf t == τ.sz) && match P.underlying t, τ with
    | some (.int k), .int k' => decide (k = k')
    | some .bool, .bool => true
    | some (.slice e), .slice τ' => tyS P d e τ' && Nat.ble (mb τ') (P.bytesOf e)
    | some (.struct fs), τ => flsB P (tyS P d) fs.toList 0 τ
    | _, _ => false
section
variable {P : Program}
def OpensS (P : Program) (t : Nat) (τ : Ty) : Prop := ∀ (H : Type) (enc : TypeId × Value → H) (w : World) (sp : Nat → Bool) (held : Bool) (fuel : Nat) (cs : List Value) (y : DataW H × List MemPlace),
    DataW.trod enc P w 0 sp held fuel t cs = some y → ∃ x : τ.T, RepD (fun b => b < w.heap.size) w τ x cs ∧ Wf τ x ∧ (SzD P t y.1 → Sz τ x)
theorem all_of_mem {l m : List Nat} (h : l.all (· ≤ reachBytes) = true) (hs : ∀ x ∈ m, x ∈ l) : m.all (· ≤ reachBytes) = true := List.all_eq_true.2 fun x hx => List.all_eq_true.1 h x (hs x hx)
theorem weightsAll_mem {H : Type} {e : Nat} : ∀ {ds : List (DataW H)} {d : DataW H}, d ∈ ds → ∀ x ∈ DataW.weights P e d, x ∈ DataW.weightsAll P e ds
  | c :: ds, d, hd, x, hx => by
    unfold DataW.weightsAll
    rcases List.mem_cons.1 hd with rfl | hd
    · exact List.mem_append_left _ hx
    · exact List.mem_append_right _ (weightsAll_mem hd x hx)
theorem SzD.slice {H : Type} {t e : Nat} {xs ys : List (DataW H)} (hu : P.underlying t = some (.slice e)) (h : SzD P t (.slice xs ys)) : (xs.length + ys.length) * P.bytesOf e ≤ reachBytes ∧ ∀ d ∈ xs, SzD P e d := by
  unfold SzD at h
  simp only [DataW.weights, hu] at h
  refine ⟨by simpa using List.all_eq_true.1 h _ List.mem_cons_self, fun d hd => all_of_mem h fun x hx => ?_⟩
  exact List.mem_cons_of_mem _ (List.mem_append_left _ (weightsAll_mem hd x hx))
theorem SzD.field {H : Type} {t : Nat} {fs : Array Field} {xs : List (DataW H)} (hu : P.underlying t = some (.struct fs)) (h : SzD P t (.agg xs)) {i : Nat} {f : Field} {d : DataW H} (hf : fs[i]? = some f) (hd : xs[i]? = some d) : SzD P f.type d := by
  unfold SzD at h
  simp only [DataW.weights, hu] at h
  exact all_of_mem h fun x hx => DataW.weights_mem_each (j := i) (by rw [List.getElem?_map, Array.getElem?_toList, hf]; rfl) hd x hx
theorem opensS_fields {d : Nat} {A : Prop} (ih : ∀ t τ, tyS P d t τ = true → P.cellsOf t = τ.sz ∧ OpensS P t τ) {H : Type} {enc : TypeId × Value → H} {w : World} {sp : Nat → Bool} {held : Bool} {n : Nat} {cs : List Value} : ∀ (fs : List Field) (off : Nat) (τ : Ty), flsB P (tyS P d) fs off τ = true → cs.length = off + τ.sz →
    (∀ f ∈ fs, ∃ z, DataW.trod enc P w 0 sp held n f.type ((cs.drop f.offset).take (P.cellsOf f.type)) = some z ∧ (A → SzD P f.type z.1)) → ∃ x : τ.T, RepD (fun b => b < w.heap.size) w τ x (cs.drop off) ∧ Wf τ x ∧ (A → Sz τ x)
  | [], _, _, h, _, _ => by cases h
  | [f], off, τ, h, hl, hf => by
    simp only [flsB, Bool.and_eq_true, beq_iff_eq] at h
    obtain ⟨h1, h2⟩ := ih _ _ h.2
    obtain ⟨z, hz, hzs⟩ := hf f List.mem_cons_self
    obtain ⟨x, k1, k2, k5⟩ := h2 _ _ _ _ _ _ _ _ hz
    rw [h.1, h1, List.take_of_length_le (by rw [List.length_drop]; omega)] at k1
    exact ⟨x, k1, k2, fun a => k5 (hzs a)⟩
  | f :: g :: r, off, .pair a b, h, hl, hf => by
    simp only [flsB, Bool.and_eq_true, beq_iff_eq] at h
    obtain ⟨h1, h2⟩ := ih _ _ h.1.2
    obtain ⟨z, hz, hzs⟩ := hf f List.mem_cons_self
    obtain ⟨x, k1, k2, k5⟩ := h2 _ _ _ _ _ _ _ _ hz
    rw [h.1.1, h1] at k1
    obtain ⟨y, k3, k4, k6⟩ := opensS_fields ih (g :: r) (off + a.sz) b h.2 (by simp only [Ty.sz] at hl; omega) (fun f' hf' => hf f' (List.mem_cons_of_mem _ hf'))
    exact ⟨(x, y), ⟨(cs.drop off).take a.sz, cs.drop (off + a.sz), by rw [← List.drop_drop, List.take_append_drop], k1, k3⟩, ⟨k2, k4⟩, fun a => ⟨k5 (hzs a), k6 a⟩⟩
  | _ :: _ :: _, _, .int _, h, _, _ => by simp [flsB] at h
  | _ :: _ :: _, _, .bool, h, _, _ => by simp [flsB] at h
  | _ :: _ :: _, _, .slice _, h, _, _ => by simp [flsB] at h
theorem opensS : ∀ (d t : Nat) (τ : Ty), tyS P d t τ = true → P.cellsOf t = τ.sz ∧ OpensS P t τ
  | 0, _, _, h => by cases h
  | d + 1, t, τ, h => by
    simp only [tyS, Bool.and_eq_true, beq_iff_eq] at h
    obtain ⟨hsz, h⟩ := h
    refine ⟨hsz, fun H enc w sp held fuel cs y hy => ?_⟩
    split at h
    · rename_i k k' hu
      obtain rfl := of_decide_eq_true h
      obtain ⟨n, rfl, _, hw⟩ := DataW.trod_int hu hy
      exact ⟨n, rfl, hw, fun _ => trivial⟩
    · rename_i hu
      obtain ⟨b, rfl, _⟩ := DataW.trod_bool hu hy
      exact ⟨b, rfl, trivial, fun _ => trivial⟩
    · rename_i e τ' hu
      simp only [Bool.and_eq_true] at h
      obtain ⟨hes, ho⟩ := opensS d e τ' h.1
      have hmb := Nat.le_of_ble_eq_true h.2
      rcases Go.Deep.open_slice hu hy with ⟨rfl, _⟩ | ⟨a, len, cap, m, n, D, Pl, rfl, _, hl, hm, hmm, hy1, hel⟩
      · exact ⟨[], ⟨none, 0, [], rfl, Nat.le_refl _, rfl, fun j u hu => by simp at hu⟩, ⟨by simp, by simp⟩, fun _ => ⟨by simp, by simp⟩⟩
      · have hle : len ≤ m := by rw [hmm]; split <;> omega
        have hx : ∀ i, i < len → ∃ xc : τ'.T × List Value, RepD (fun b => b < w.heap.size) w τ' xc.1 xc.2 ∧ Wf τ' xc.1 ∧ (SzD P e (D i) → Sz τ' xc.1) ∧ ∀ j u, xc.2[j]? = some u → w.cell? (a.add (i * τ'.sz + j)) = some u := by
          intro i hi
          obtain ⟨c, hc, hr⟩ := hel i (by omega)
          obtain ⟨hcl, hcc⟩ := cells_at hc
          obtain ⟨x, hK, hw, hS⟩ := ho H enc w sp held n c _ hr
          refine ⟨(x, c), hK, hw, hS, fun j u hu => ?_⟩
          rw [← hes, ← Go.Deep.add_add]
          exact hcc j u hu
        haveI : Inhabited τ'.T := ⟨τ'.dflt⟩
        obtain ⟨f, hf⟩ := Go.Deep.choose_lt hx
        obtain ⟨inner, e1, e2, e3⟩ := el_of (R := RepD (fun b => b < w.heap.size) w τ') (s := τ'.sz) len (fun i => (f i).1) (fun i => (f i).2) (fun i hi => ⟨(hf i hi).1, (hf i hi).1.len⟩)
        have hcell : ∀ q u, inner[q]? = some u → w.cell? (a.add q) = some u := by
          intro q u hq
          have hp := τ'.sz_pos
          have hql := (List.getElem?_eq_some_iff.1 hq).1
          rw [e2] at hql
          have hi : q / τ'.sz < len := Nat.div_lt_of_lt_mul (by rw [Nat.mul_comm]; exact hql)
          have hdm := Nat.div_add_mod q τ'.sz
          rw [Nat.mul_comm] at hdm
          have := (hf _ hi).2.2.2 (q % τ'.sz) u (e3 _ _ u hi (Nat.mod_lt _ hp) (by rw [hdm]; exact hq))
          rw [hdm] at this
          exact this
        refine ⟨(List.range len).map fun i => (f i).1, ⟨some a, cap, inner, by simp, by simpa using hl, e1, fun j u hu => ?_⟩, ⟨by simp only [List.length_map, List.length_range]; omega, fun x hx2 => ?_⟩, fun hS => ?_⟩
        · have hc := hcell j u hu
          have h0 : 0 < inner.length := Nat.lt_of_le_of_lt (Nat.zero_le _) (List.getElem?_eq_some_iff.1 hu).1
          have hc0 := hcell 0 inner[0] (List.getElem?_eq_getElem h0)
          have hs : a.spot = none := by
            have := (cell_plain hc0).1
            unfold Addr.add at this
            simpa using this
          obtain ⟨ab, ao, asp⟩ := a
          obtain rfl : asp = none := hs
          have c2 := (cell_plain hc).2
          rw [Addr.add_plain] at hc c2
          exact ⟨ab, ao, rfl, c2, hc⟩
        · obtain ⟨i, hi, rfl⟩ := List.mem_map.1 hx2
          exact (hf i (by simpa using hi)).2.1
        · have hS2 : SzD P t (.slice ((List.range len).map D) ((List.range (m - len)).map fun j => D (len + j))) := by rw [hy1] at hS; exact hS
          have hw := SzD.slice hu hS2
          refine ⟨?_, fun x hx2 => ?_⟩
          · have h1 := hw.1
            simp only [List.length_map, List.length_range] at h1 ⊢
            exact Nat.le_trans (Nat.mul_le_mul (by omega) hmb) h1
          · obtain ⟨i, hi, rfl⟩ := List.mem_map.1 hx2
            have hi' : i < len := by simpa using hi
            exact (hf i hi').2.2.1 (hw.2 _ (List.mem_map.2 ⟨i, hi, rfl⟩))
    · rename_i _ τ0 fs hu
      obtain ⟨xs, n, _, hy1, hl, hxl, hf⟩ := DataW.trod_struct hu hy
      obtain ⟨x, k1, k2, k3⟩ := opensS_fields (A := SzD P t y.1) (fun t τ h => opensS d t τ h) (enc := enc) (w := w) (sp := sp) (held := held) (n := n) (cs := cs) fs.toList 0 _ h (by rw [hl, hsz]; omega) (fun f hfm => by
        obtain ⟨i, hi⟩ := List.getElem?_of_mem hfm
        rw [Array.getElem?_toList] at hi
        have hlt : i < xs.length := by rw [hxl]; exact (Array.getElem?_eq_some_iff.1 hi).1
        exact ⟨xs[i], by rw [hf i f hi, List.getElem?_eq_getElem hlt], fun hA => SzD.field hu (by rw [hy1] at hA; exact hA) hi (by rw [List.getElem?_map, List.getElem?_eq_getElem hlt]; rfl)⟩)
      rw [List.drop_zero] at k1
      exact ⟨x, k1, k2, k3⟩
    · cases h
end
end Go.Proofs.YtkhjemahenkdiaaDoor.V
