/- No lists of which one is kept apart here. -/
import Derived.Test.YtkhjemahenkdiaaGreatDoorVNA
import Derived.Deep.AppendSrc
namespace Go.Proofs.YtkhjemahenkdiaaGreatDoor.V
open Go Go.RowKit
set_option linter.unusedVariables false
set_option linter.unusedSimpArgs false
section
variable {P : Program} {F0 : Nat → Prop} {w0 : World} {E : En} {σ : St} {a : Act} {w : World} {tt : TT} {heap : Heap}
theorem app_raw {t e : Nat} {i j : TI} (hT : TF P t i) (he : i.elem = some e) (hE : TF P e j) {v : Value} {inner news : List Value} {n cx : Nat} {ad : Addr} (hO : Own w e j.n v n inner) (hil : inner.length = n * j.n) (hb : 0 < j.bytes) (hl : news.length = j.n)
    (hnews : ∀ q u, news[q]? = some u → w.cell? (ad.add q) = some u) (h1 : ∀ u ∈ news, u.oneCell' = true) (hlim : (n + 1) * j.bytes ≤ 140737488355328) (ty : Nat) :
    ∃ v' w', (Builtin.append_ #[t, t] ty #[v, .slice (some ad) 1 cx]).run P w = .ok v' w' ∧ Own w' e j.n v' (n + 1) (inner ++ news) ∧ (∀ b, b < w.heap.size → (∀ o m c, v = .slice (some ⟨b, o, none⟩) m c → c = 0) → w'.heap[b]? = w.heap[b]?) ∧ w.heap.size ≤ w'.heap.size ∧
      (∀ b o m c, v' = .slice (some ⟨b, o, none⟩) m c → 0 < c → (∃ o m c, v = .slice (some ⟨b, o, none⟩) m c ∧ 0 < c) ∨ w.heap.size ≤ b ∧ b < w'.heap.size) ∧ w'.os = w.os ∧ w'.tape = w.tape ∧ w'.output = w.output := by
  obtain ⟨f, d, z, e1, e2, e3, e4, e5, _, _, e8, _⟩ := hE.ex
  have ht := hT.slice he
  have hzs : z.cells.size = j.n := by
    have := (zall_ok (E0 fun _ => False) w e8).len
    rw [Array.length_toList, hE.zl] at this
    exact this
  have hmx : n + 1 ≤ maxLen := by
    have := Nat.le_trans (Nat.le_mul_of_pos_right (n + 1) hb) hlim
    unfold maxLen; omega
  have h63 : ((n + 1 : Nat) : Int) ≤ 9223372036854775807 := by unfold maxLen at hmx; omega
  have hn1 : (n + 1) * j.n = n * j.n + j.n := Nat.succ_mul n j.n
  have hlen : (inner ++ news).length = (n + 1) * j.n := by rw [List.length_append, hil, hl, hn1]
  have fin : ∀ (base : Option Addr) (c : Nat), v = .slice base n c → c < n + 1 → (∀ a, base = some a → ∀ j u, inner[j]? = some u → w.cell? (a.add j) = some u) → (base = none → inner = []) → _ := fun base c hv h2 h4 h5 => by
    have hr := run_append_grow_src (P := P) w t t ty e f z ht e1 e5 base n c inner (by
      cases base with
      | none =>
        have := h5 rfl
        subst this
        have h0 : n * f.size = 0 := by rw [e3]; exact hil.symm
        simp [Builtin.firstCells]
      | some a => exact run_firstCells_some w.drew f.size n a n c inner (by rw [e3]; exact hil) (fun j u hj => h4 a rfl j u hj)) _ 1 news (Src.ofSlice w ht ad 1 cx news (by rw [e3, Nat.one_mul]; exact hl) hnews h1) h2 h63 (by rw [e4]; exact growslice_fits h2 hlim)
    have hge := grownCap_ge w (n + 1) c e
    refine (⟨_, _, by rw [hv]; exact hr, .inr ⟨_, _, _, rfl, by omega, heap_drew_new w _, hge, grownCap_le_maxLen w (n + 1) c e hmx, ?_, ?_⟩, fun b hb _ => heap_drew_old w _ hb, by simp, fun b o m c' e hc => ?_, rfl, rfl, rfl⟩ : ∃ v' w', (Builtin.append_ #[t, t] ty #[v, .slice (some ad) 1 cx]).run P w = .ok v' w' ∧ Own w' e j.n v' (n + 1) (inner ++ news) ∧ (∀ b, b < w.heap.size → (∀ o m c, v = .slice (some ⟨b, o, none⟩) m c → c = 0) → w'.heap[b]? = w.heap[b]?) ∧ w.heap.size ≤ w'.heap.size ∧
      (∀ b o m c, v' = .slice (some ⟨b, o, none⟩) m c → 0 < c → (∃ o m c, v = .slice (some ⟨b, o, none⟩) m c ∧ 0 < c) ∨ w.heap.size ≤ b ∧ b < w'.heap.size) ∧ w'.os = w.os ∧ w'.tape = w.tape ∧ w'.output = w.output)
    · have hzl : ∀ m, (Builtin.zeroCells z.cells m).size = m * j.n := fun m => by simp [Builtin.zeroCells, hzs]
      simp only [Array.size_append, List.size_toArray, hzl, hlen]
      rw [← Nat.add_mul]
      congr 1
      omega
    · rw [Array.toList_append, show ∀ l : List Value, l.toArray.toList = l from fun _ => rfl, List.take_append_of_le_length (by rw [hlen]; exact Nat.le_refl _), List.take_of_length_le (by rw [hlen]; exact Nat.le_refl _)]
    · simp only [Value.slice.injEq, Option.some.injEq, Addr.mk.injEq] at e
      obtain ⟨⟨rfl, _⟩, _⟩ := e
      exact .inr ⟨Nat.le_refl _, by simp⟩
  rcases hO with ⟨A, k1, k2, k3⟩ | ⟨g, cap, cur, k1, k2, k3, k4, k5, k6, k7⟩
  · subst k2
    exact fin A 0 k1 (by omega) (fun a _ j u hu => by rw [k3] at hu; simp at hu) (fun _ => k3)
  · by_cases hroom : n + 1 ≤ cap
    · subst k1
      have hfit : n * f.size + news.length ≤ cur.size := by rw [e3, hl, k6, ← Nat.succ_mul]; exact Nat.mul_le_mul_right _ hroom
      refine ⟨_, _, run_append_room (P := P) w t ty e f ht e1 g n cap cur k3 ad 1 cx news (by rw [e3, Nat.one_mul]; exact hl) hnews h1 hroom hfit, .inr ⟨g, cap, _, rfl, k2, setRow_heap w g cur _ e (0, 0) k3, hroom, k5, ?_, ?_⟩, fun b hb hnb => setRow_other w g b _ (fun e => by
          subst e
          have := hnb 0 n cap rfl
          omega), by simp, fun b o m c' e hc => ?_, rfl, rfl, rfl⟩
      · rw [e3, hl] at hfit ⊢
        simp only [List.size_toArray, List.length_append, List.length_take, List.length_drop, Array.length_toList, hl]
        omega
      · rw [e3, hl, k7]
        show List.take ((n + 1) * j.n) (inner ++ news ++ _) = _
        rw [List.take_append_of_le_length (by rw [hlen]; exact Nat.le_refl _), List.take_of_length_le (by rw [hlen]; exact Nat.le_refl _)]
      · simp only [Value.slice.injEq, Option.some.injEq, Addr.mk.injEq] at e
        obtain ⟨⟨rfl, _⟩, _⟩ := e
        exact .inl ⟨0, n, cap, rfl, k2⟩
    · exact fin (some ⟨g, 0, none⟩) cap k1 (by omega) (fun a ha j u hu => by
        obtain rfl := Option.some.inj ha
        rw [Addr.add_plain, Nat.zero_add, cell_of_row _ _ _ _ _ _ k3]
        rw [← k7, List.getElem?_take] at hu
        split at hu
        · simpa using hu
        · cases hu) (fun h => by cases h)
/-- A slice of one's own is given up for another one, told otherwise. -/
def semBuildLnk (tt : TT) (nt : Nat) (dst : Option Nat) (t len : Nat) (parts : Array (Nat × Operand)) : Rd := .fail
theorem ok_buildLnk (hck : tt.ck P = true) {o : Oper} {t len : Nat} {parts : Array (Nat × Operand)} {Q : Exit → Act → World → Prop} {ws : List Wr} (ho : o.op = .buildSlice t len parts) (hI : Inv F0 w0 E σ a w) (h : Rd.fail.gives σ ws) : Good P F0 w0 E o a w (σ.aps ws) Q := absurd h Rd.gives_fail
def semAppL (tt : TT) (nt hn sb : Nat) (dst : Option Nat) (t t' : Nat) (s x : Operand) : Rd := .fail
theorem ok_appL (hck : tt.ck P = true) {o : Oper} {t t' : Nat} {s x : Operand} {Q : Exit → Act → World → Prop} {ws : List Wr} (ho : o.op = .call { callee := .builtin .append, args := #[s, x], argTypes := #[t, t'] }) (hI : Inv F0 w0 E σ a w)
    (h : Rd.fail.gives σ ws) : Good P F0 w0 E o a w (σ.aps ws) Q := absurd h Rd.gives_fail
end
end Go.Proofs.YtkhjemahenkdiaaGreatDoor.V
