/- What an operation reads and writes, without memory; each against the model. Part 7: append. -/
import Derived.Test.YtkhjemahenkdiaaGreatDoorVI
namespace Go.Proofs.YtkhjemahenkdiaaGreatDoor.V
open Go Go.RowKit
set_option linter.unusedVariables false
set_option linter.unusedSimpArgs false
section
variable {P : Program} {F0 : Nat → Prop} {w0 : World} {E : En} {σ : St} {a : Act} {w : World} {tt : TT}
def cst (e τ : Ty) (xs : List e.T) (k : List τ.T → Rd) : Rd := if h : e = τ then k (h ▸ xs) else .fail
theorem cst_gives {e τ : Ty} {xs : List e.T} {k : List τ.T → Rd} {ws : List Wr} (h : (cst e τ xs k).gives σ ws) : ∃ he : e = τ, (k (he ▸ xs)).gives σ ws := by
  unfold cst at h
  split at h
  · exact ⟨_, h⟩
  · exact absurd h Rd.gives_fail
/-- A slice of things of type τ that is read now. -/
def rdx (v : AV) (τ : Ty) (k : List τ.T → Rd) : Rd := match v with
  | .nils => k []
  | .sl e xs _ => cst e τ xs k
  | .own s => .slot s fun z => match z with
    | .frz e xs => cst e τ xs k
    | .buf _ e xs => cst e τ xs k
    | _ => .fail
  | _ => .fail
/-- A slice whose cells are there. -/
def There (F : Nat → Prop) (w : World) (τ : Ty) (xs : List τ.T) (v : Value) : Prop := ∃ A c inner, v = .slice A xs.length c ∧ xs.length ≤ c ∧ El (RepD F w τ) xs inner ∧ inner.length = xs.length * τ.sz ∧ ∀ j u, inner[j]? = some u → ∃ b o, A = some ⟨b, o, none⟩ ∧ w.cell? ⟨b, o + j, none⟩ = some u
theorem there_frz {τ : Ty} {xs : List τ.T} {v : Value} (h : RepD E.F w (.slice τ) xs [v]) : There E.F w τ xs v := by
  obtain ⟨A, c, inner, h1, h2, h3, h4, h5⟩ := slice_parts h
  exact ⟨A, c, inner, h1, h2, h3, h4, fun j u hu => by obtain ⟨b, o, e1, _, e2⟩ := h5 j u hu; exact ⟨b, o, e1, e2⟩⟩
theorem there_own {et : Nat} {τ : Ty} {xs : List τ.T} {v : Value} {inner : List Value} (h : Own w et τ.sz v xs.length inner) (hE : El (RepD E.F w τ) xs inner) : There E.F w τ xs v := by
  have hl : inner.length = xs.length * τ.sz := hE.len (fun _ _ h => h.len)
  rcases h with ⟨A, e1, e2, e3⟩ | ⟨g, cap, cur, e1, e2, e3, e4, e5, e6, e7⟩
  · refine ⟨A, 0, inner, by rw [e2]; exact e1, by omega, hE, hl, fun j u hu => by rw [e3] at hu; simp at hu⟩
  · refine ⟨some ⟨g, 0, none⟩, cap, inner, e1, e4, hE, hl, fun j u hu => ⟨g, 0, rfl, ?_⟩⟩
    rw [cell_of_row _ _ _ _ _ _ e3, Nat.zero_add]
    rw [← e7, List.getElem?_take] at hu
    split at hu
    · simpa using hu
    · cases hu
theorem rdx_gives (hI : Inv F0 w0 E σ a w) {v : AV} {u : Value} {τ : Ty} {k : List τ.T → Rd} {ws : List Wr} (hv : RepA E w u v) (h : (rdx v τ k).gives σ ws) : ∃ xs, There E.F w τ xs u ∧ (k xs).gives σ ws := by
  unfold rdx at h
  split at h
  · exact ⟨[], ⟨none, 0, [], hv, Nat.le_refl _, rfl, by simp, fun j u hu => by simp at hu⟩, h⟩
  · obtain ⟨rfl, h⟩ := cst_gives h
    exact ⟨_, there_frz hv.1, h⟩
  · rename_i s
    replace h := Rd.gives_slot.1 h
    have hk := hI.heap.slot s
    split at h
    · rename_i e xs hs
      rw [hs] at hk
      obtain ⟨u', h1, h2⟩ := hk
      have h3 := hv.1
      rw [h1] at h3
      obtain rfl := Option.some.inj h3
      obtain ⟨rfl, h⟩ := cst_gives h
      exact ⟨_, there_frz h2, h⟩
    · rename_i et e xs hs
      rw [hs] at hk
      obtain ⟨u', inner, h1, h2, h4⟩ := hk
      have h3 := hv.1
      rw [h1] at h3
      obtain rfl := Option.some.inj h3
      obtain ⟨rfl, h⟩ := cst_gives h
      exact ⟨_, there_own h2 h4, h⟩
    · exact absurd h Rd.gives_fail
  · exact absurd h Rd.gives_fail
theorem addr_of {A : Option Addr} {inner : List Value} (hp : 0 < inner.length) (h : ∀ j u, inner[j]? = some u → ∃ b o, A = some ⟨b, o, none⟩ ∧ w.cell? ⟨b, o + j, none⟩ = some u) : ∃ b o, A = some ⟨b, o, none⟩ ∧ ∀ j u, inner[j]? = some u → w.cell? ((⟨b, o, none⟩ : Addr).add j) = some u := by
  obtain ⟨b, o, rfl, _⟩ := h 0 inner[0] (List.getElem?_eq_getElem hp)
  refine ⟨b, o, rfl, fun j u hu => ?_⟩
  obtain ⟨b', o', e, h2⟩ := h j u hu
  simp only [Option.some.injEq, Addr.mk.injEq, and_true] at e
  obtain ⟨rfl, rfl⟩ := e
  rw [Addr.add_plain]
  exact h2
section
variable {t e : Nat} {i j : TI} (hT : TF P t i) (he : i.elem = some e) (hE : TF P e j) {τ : Ty} (hτ : τ.sz = j.n) {xs ys : List τ.T} {v u : Value} (hx : There E.F w τ xs v) (hy : There E.F w τ ys u) (hb : 0 < j.bytes) (hlim : (xs.length + ys.length) * j.bytes ≤ 140737488355328)
include hT he hE hx hy
theorem app_none (h0 : ys.length = 0) (ty : Nat) : (Builtin.append_ #[t, t] ty #[v, u]).run P w = .ok v w := by
  obtain ⟨A, c, inner, rfl, h2, h3, h4, h5⟩ := hx
  obtain ⟨B, d, news, rfl, k2, k3, k4, k5⟩ := hy
  obtain ⟨f, dd, z, e1, e2, e3, e4, e5, _⟩ := hE.ex
  have hle : xs.length + ys.length ≤ c := by omega
  have hu := hT.slice he
  cases A with
  | none => cases B with
    | none => simp [Builtin.append_, run_underlying hu w, sizeOf, typeInfo, e1, Builtin.lenOf, h0, h2, Builtin.firstCells]
    | some b => simp [Builtin.append_, run_underlying hu w, sizeOf, typeInfo, e1, Builtin.lenOf, h0, h2, Builtin.firstCells, loadCells, loadCellsFrom]
  | some a => cases B with
    | none => simp [Builtin.append_, run_underlying hu w, sizeOf, typeInfo, e1, Builtin.lenOf, h0, h2, Builtin.firstCells, storeCells]
    | some b => simp [Builtin.append_, run_underlying hu w, sizeOf, typeInfo, e1, Builtin.lenOf, h0, h2, Builtin.firstCells, loadCells, loadCellsFrom, storeCells]
include hτ hb hlim
/-- Grown: a new row. -/
theorem app_grow (h0 : 0 < ys.length) (ty : Nat) {A : Option Addr} {c : Nat} (hv : v = .slice A xs.length c) (hA : A = none → c = 0) (hc : c < xs.length + ys.length) : ∃ cap cells, (Builtin.append_ #[t, t] ty #[v, u]).run P w = .ok (.slice (some ⟨w.heap.size, 0, none⟩) (xs.length + ys.length) cap) (w.drew.alloc (.cells cells e)) ∧ xs.length + ys.length ≤ cap ∧ cap ≤ maxLen ∧ cells.size = cap * τ.sz ∧ ∃ inner, cells.toList.take ((xs.length + ys.length) * τ.sz) = inner ∧ El (RepD E.F w τ) (xs ++ ys) inner := by
  obtain ⟨A', c', inner, e0, h2, h3, h4, h5⟩ := hx
  obtain ⟨B, d, news, rfl, k2, k3, k4, k5⟩ := hy
  rw [hv] at e0
  simp only [Value.slice.injEq, true_and] at e0
  obtain ⟨rfl, rfl⟩ := e0
  subst hv
  obtain ⟨f, dd, z, e1, e2, e3, e4, e5, e6, e7, e8, e9, _⟩ := hE.ex
  have hu := hT.slice he
  have hsz : τ.sz = f.size := by rw [e3, hτ]
  have hpos := τ.sz_pos
  have hnl : 0 < news.length := by rw [k4]; exact Nat.mul_pos h0 hpos
  obtain ⟨b, o, rfl, hnews⟩ := addr_of hnl k5
  have hmax : xs.length + ys.length ≤ maxLen := by
    have := Nat.le_trans (Nat.le_mul_of_pos_right (xs.length + ys.length) hb) hlim
    unfold maxLen
    omega
  have hmax2 : xs.length + ys.length ≤ 9223372036854775807 := by unfold maxLen at hmax; omega
  have hzs : z.cells.size = f.size := by
    have := (zall_ok E w e8).len
    rw [Array.length_toList] at this
    rw [this, hE.zl, e3]
  have hbytes : (xs.length + ys.length) * f.bytes ≤ 140737488355328 := by rw [e4]; exact hlim
  cases A with
  | none =>
    have hc0 : c = 0 := hA rfl
    have hx0 : xs = [] := List.length_eq_zero_iff.1 (by omega)
    subst hx0 hc0
    obtain rfl : inner = [] := h3
    simp only [List.length_nil, Nat.zero_add] at *
    have hr := run_append_nil (P := P) w t ty e f z hu e1 e5 ⟨b, o, none⟩ ys.length d news (by rw [k4, hsz]) hnews h0 (by omega) (by omega)
    refine ⟨_, _, hr, grownCap_ge w _ 0 e, grownCap_le_maxLen w _ 0 e hmax, ?_, _, rfl, ?_⟩
    · have := grownCap_ge w ys.length 0 e
      simp only [Array.size_append, List.size_toArray, size_zeroCells, hzs, k4, ← hsz, ← Nat.add_mul]
      congr 1
      omega
    · simp only [Array.toList_append, List.nil_append]
      rw [← k4, List.take_left]
      exact k3
  | some a0 =>
    have hb0 : ∃ b0 o0, a0 = ⟨b0, o0, none⟩ ∨ inner = [] := by
      cases inner with
      | nil => exact ⟨0, 0, .inr rfl⟩
      | cons x r => obtain ⟨b1, o1, e, _⟩ := h5 0 x rfl; exact ⟨b1, o1, .inl (Option.some.inj e)⟩
    have holds : ∀ q v, inner[q]? = some v → w.cell? (a0.add q) = some v := by
      intro q v hq
      obtain ⟨b1, o1, e, h⟩ := h5 q v hq
      obtain rfl := Option.some.inj e
      rw [Addr.add_plain]
      exact h
    have hr := run_append_grow (P := P) w t ty e f z hu e1 e5 a0 xs.length c inner (by rw [h4, hsz]) holds ⟨b, o, none⟩ ys.length d news (by rw [k4, hsz]) hnews hc (by omega) (growslice_fits hc hbytes)
    refine ⟨_, _, hr, grownCap_ge w _ c e, grownCap_le_maxLen w _ c e hmax, ?_, _, rfl, ?_⟩
    · have := grownCap_ge w (xs.length + ys.length) c e
      simp only [Array.size_append, List.size_toArray, size_zeroCells, hzs, k4, h4, ← hsz, ← Nat.add_mul]
      congr 1
      omega
    · simp only [Array.toList_append]
      have hl : (inner ++ news).length = (xs.length + ys.length) * τ.sz := by rw [List.length_append, h4, k4, Nat.add_mul]
      rw [← hl, List.take_left]
      exact h3.app k3
end
end
end Go.Proofs.YtkhjemahenkdiaaGreatDoor.V
