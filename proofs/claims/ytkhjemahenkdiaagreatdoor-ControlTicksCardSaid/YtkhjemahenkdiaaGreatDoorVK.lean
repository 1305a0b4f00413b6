/- What an operation reads and writes, without memory; each against the model. Part 8: append, its two endings. -/
import Derived.Test.YtkhjemahenkdiaaGreatDoorVJ
namespace Go.Proofs.YtkhjemahenkdiaaGreatDoor.V
open Go Go.RowKit
set_option linter.unusedVariables false
set_option linter.unusedSimpArgs false
section
variable {P : Program} {F0 : Nat → Prop} {w0 : World} {E : En} {σ : St} {a : Act} {w : World} {tt : TT} {heap : Heap}
theorem row_slot {k et : Nat} {τ : Ty} {xs : List τ.T} {w' : World} {g cap : Nat} {cur : Array Value} {inner : List Value} (hg : w'.heap[g]? = some (.cells cur et (0, 0))) (h1 : xs.length ≤ cap) (h2 : cap ≤ maxLen) (h3 : cur.size = cap * τ.sz) (h4 : cur.toList.take (xs.length * τ.sz) = inner) (hp : 0 < cap) (hE : El (RepD E.F w' τ) xs inner) :
    SlotOk (updγ E k (.slice (some ⟨g, 0, none⟩) xs.length cap)) w' k (.buf et τ xs) [] :=
  ⟨.slice (some ⟨g, 0, none⟩) xs.length cap, inner, by simp [updγ], .inr ⟨g, cap, cur, rfl, hp, hg, h1, h2, h3, h4⟩, hE⟩
theorem live_upd {k et : Nat} {τ : Ty} {xs : List τ.T} {v : Value} {b : Nat} : Live (updγ E k v) k (.buf et τ xs) b ↔ ∃ o n c, v = .slice (some ⟨b, o, none⟩) n c ∧ 0 < c := by
  simp [Live, updγ]
theorem below_of {w' : World} {g : Nat} (hos : w'.os = w.os) (hta : w'.tape = w.tape) (hou : w'.output = w.output) (hsz : w.heap.size ≤ w'.heap.size) (hb : ∀ b, b < g → w'.heap[b]? = w.heap[b]?) : Below g w w' := ⟨hos, hta, hou, hsz, hb⟩
theorem heap_drew_new (w : World) (o : Obj) : (w.drew.alloc o).heap[w.heap.size]? = some o := heap_alloc_new w.drew o
theorem heap_drew_old (w : World) (o : Obj) {b : Nat} (h : b < w.heap.size) : (w.drew.alloc o).heap[b]? = w.heap[b]? := heap_alloc_old w.drew o b h
theorem size_drew_alloc (w : World) (o : Obj) : (w.drew.alloc o).heap.size = w.heap.size + 1 := by simp
/-- A slice that stays as it is gets a slot of its own. -/
theorem own_same (h : InvH F0 w0 E heap w) {sb et : Nat} (hsb : sb < heap.length) (hn : (hg heap sb).1 = .none) {τ : Ty} {xs : List τ.T} {v : Value} {inner : List Value} (ho : Own w et τ.sz v xs.length inner) (hE : El (RepD E.F w τ) xs inner)
    (hfree : ∀ b o n c, v = .slice (some ⟨b, o, none⟩) n c → 0 < c → w0.heap.size ≤ b ∧ b < w.heap.size ∧ ¬ E.F b ∧ ∀ j, ¬ Live E j (hg heap j).1 b) :
    ∃ E', InvH F0 w0 E' (hs heap sb (.buf et τ xs, [])) w ∧ Evo E w E' w ∧ E'.γ sb = some v := by
  obtain ⟨h1, h2⟩ := h.newγ (w' := w) hsb hn (v := v) (Below.refl _ w) (fun _ _ => rfl) (fun _ _ _ _ => rfl) (s := .buf et τ xs) (c := []) ⟨v, inner, by simp [updγ], ho, hE⟩ (fun b hb => by
    obtain ⟨o, n, c, e, hc⟩ := live_upd.1 hb
    obtain ⟨q1, q2, q3, q4⟩ := hfree b o n c e hc
    exact ⟨q1, q2, q3, fun j _ => q4 j⟩)
  exact ⟨_, h1, h2, by simp [updγ]⟩
/-- A row that is new. -/
theorem own_grown (h : InvH F0 w0 E heap w) {sb et : Nat} (hsb : sb < heap.length) (hn : (hg heap sb).1 = .none) {τ : Ty} {xs : List τ.T} {cap : Nat} {cells : Array Value} {inner : List Value} (w' : World) (hnew : w'.heap[w.heap.size]? = some (.cells cells et (0, 0))) (hold : ∀ b, b < w.heap.size → w'.heap[b]? = w.heap[b]?) (hsz : w'.heap.size = w.heap.size + 1) (hos : w'.os = w.os) (hta : w'.tape = w.tape) (hou : w'.output = w.output)
    (h1 : xs.length ≤ cap) (h2 : cap ≤ maxLen) (h3 : cells.size = cap * τ.sz) (h4 : cells.toList.take (xs.length * τ.sz) = inner) (hE : El (RepD E.F w τ) xs inner) :
    ∃ E', InvH F0 w0 E' (hs heap sb (.buf et τ xs, [])) w' ∧ Evo E w E' w' ∧ E'.γ sb = some (.slice (some ⟨w.heap.size, 0, none⟩) xs.length cap) := by
  have hev : Evo E w E w' := ⟨fun _ _ e => e, fun _ _ e => e, fun _ e => e, fun b hb => hold b (h.fz b hb)⟩
  have hbel : Below w0.heap.size w w' := below_of hos hta hou (by omega) (fun b hb => hold b (by have := h.below.size; omega))
  have hown : Own w' et τ.sz (.slice (some ⟨w.heap.size, 0, none⟩) xs.length cap) xs.length inner ∨ cap = 0 := by
    by_cases hc : 0 < cap
    · exact .inl (.inr ⟨_, cap, cells, rfl, hc, hnew, h1, h2, h3, h4⟩)
    · exact .inr (by omega)
  have hown : Own w' et τ.sz (.slice (some ⟨w.heap.size, 0, none⟩) xs.length cap) xs.length inner := by
    rcases hown with h | h
    · exact h
    · have h0 : xs.length = 0 := by omega
      refine .inl ⟨some ⟨w.heap.size, 0, none⟩, by rw [h0, h], h0, ?_⟩
      rw [← h4, h0]
      simp
  obtain ⟨q1, q2⟩ := h.newγ (w' := w') hsb hn (v := .slice (some ⟨w.heap.size, 0, none⟩) xs.length cap) hbel hev.heap (fun j _ b hl => hold b (h.own j b hl).2.1) (s := .buf et τ xs) (c := [])
    ⟨_, inner, by simp [updγ], hown, hE.imp (fun _ _ => RepD.evo hev)⟩ (fun b hb => by
      obtain ⟨o, n, c, e, hc⟩ := live_upd.1 hb
      simp only [Value.slice.injEq, Option.some.injEq, Addr.mk.injEq, and_true] at e
      obtain ⟨⟨rfl, _⟩, _⟩ := e
      refine ⟨h.below.size, by omega, fun hF => ?_, fun j _ hl => ?_⟩
      · have := h.fz _ hF; omega
      · have := (h.own j _ hl).2.1; omega)
  exact ⟨_, q1, q2, by simp [updγ]⟩
/-- A row that is new, and is written no more. -/
theorem frz_grown (h : InvH F0 w0 E heap w) {et : Nat} {τ : Ty} {xs : List τ.T} {cap : Nat} {cells : Array Value} {inner : List Value} (w' : World) (hnew : w'.heap[w.heap.size]? = some (.cells cells et (0, 0))) (hold : ∀ b, b < w.heap.size → w'.heap[b]? = w.heap[b]?) (hsz : w'.heap.size = w.heap.size + 1) (hos : w'.os = w.os) (hta : w'.tape = w.tape) (hou : w'.output = w.output)
    (h1 : xs.length ≤ cap) (h4 : cells.toList.take (xs.length * τ.sz) = inner) (hE : El (RepD E.F w τ) xs inner) :
    InvH F0 w0 (updF E w.heap.size) heap w' ∧ Evo E w (updF E w.heap.size) w' ∧ RepD (updF E w.heap.size).F w' (.slice τ) xs [.slice (some ⟨w.heap.size, 0, none⟩) xs.length cap] := by
  have he : Evo E w (updF E w.heap.size) w' := ⟨fun _ _ e => e, fun _ _ e => e, fun _ e => .inl e, fun b hb => hold b (h.fz b hb)⟩
  have hbel : Below w0.heap.size w w' := below_of hos hta hou (by omega) (fun b hb => hold b (by have := h.below.size; omega))
  refine ⟨⟨h.below.trans hbel, fun j => ?_, fun j b hl => ?_, h.inj, ?_, ?_, fun b hb => .inl (h.sup b hb), h.gl⟩, he, ?_⟩
  · exact SlotOk.keep (E := E) (E' := updF E w.heap.size) rfl rfl he (fun b hl => hold b (h.own j b hl).2.1) (h.slot j)
  · obtain ⟨q1, q2, q3⟩ := h.own j b hl
    refine ⟨q1, by omega, fun hF => ?_⟩
    rcases hF with hF | rfl
    · exact q3 hF
    · omega
  · intro b hb
    rcases hb with hb | rfl
    · have := h.fz b hb; omega
    · omega
  · intro b hb
    rcases hb with hb | rfl
    · exact h.sub b hb
    · exact .inr h.below.size
  · refine ⟨_, cap, inner, rfl, h1, hE.imp (fun _ _ => RepD.evo he), fun q u hq => ⟨w.heap.size, 0, rfl, .inr rfl, ?_⟩⟩
    rw [cell_of_row _ _ _ _ _ _ hnew, Nat.zero_add]
    rw [← h4, List.getElem?_take] at hq
    split at hq
    · simpa using hq
    · cases hq
def Cap.tight : Cap → Bool
  | .full => true
  | .nil => true
  | _ => false
def semApp (tt : TT) (nt hn sb : Nat) (own : Bool) (dst : Option Nat) (t t' : Nat) (s x : Operand) : Rd := ev1 s fun sv => ev1 x fun xv => match tt.at t with
  | some i => match i.elem with
    | some e => match tt.at e with
      | some j => match j.ty with
        | some τ => cond (Nat.beq t t' && Nat.beq τ.sz j.n && Nat.blt 0 j.bytes) (rdx xv τ fun ys => match sv with
          | .nils => .need (ys.length * j.bytes ≤ 140737488355328) (cond own (free hn sb (fin nt dst [.slot sb (.buf e τ ys) []] (.cv (.one (.own sb))))) (fin nt dst [] (.cv (.one (.sl τ ys .any)))))
          | .sl e' xs c => cst e' τ xs fun xs => cond c.tight (.need ((xs.length + ys.length) * j.bytes ≤ 140737488355328) (cond own (.need (xs.length = 0 ∨ 0 < ys.length) (free hn sb (fin nt dst [.slot sb (.buf e τ (xs ++ ys)) []] (.cv (.one (.own sb)))))) (fin nt dst [] (.cv (.one (.sl τ (xs ++ ys) .any)))))) .fail
          | .own k => .slot k fun z => match z with
            | .buf et e' xs => cond (Nat.beq et e && own) (cst e' τ xs fun xs => .need ((xs.length + ys.length) * j.bytes ≤ 140737488355328) (free hn sb (fin nt dst [.slot k .dead [], .slot sb (.buf e τ (xs ++ ys)) []] (.cv (.one (.own sb)))))) .fail
            | _ => .fail
          | _ => .fail) .fail
        | none => .fail
      | none => .fail
    | none => .fail
  | none => .fail
section
variable {t e : Nat} {i j : TI} (hT : TF P t i) (he : i.elem = some e) (hE : TF P e j) {τ : Ty} (hτ : τ.sz = j.n) {xs ys : List τ.T} {v u : Value} (hy : There E.F w τ ys u) (hb : 0 < j.bytes) (hlim : (xs.length + ys.length) * j.bytes ≤ 140737488355328)
include hT he hE hτ hy hb hlim
/-- Behind a slice without room: in a slot of its own. -/
theorem app_own_full (h : InvH F0 w0 E heap w) {sb : Nat} (hsb : sb < heap.length) (hn : (hg heap sb).1 = .none) (hx : There E.F w τ xs v) {A : Option Addr} {n : Nat} (hv : v = .slice A n n) (hor : xs.length = 0 ∨ 0 < ys.length) (ty : Nat) :
    ∃ r w' E', (Builtin.append_ #[t, t] ty #[v, u]).run P w = .ok r w' ∧ InvH F0 w0 E' (hs heap sb (.buf e τ (xs ++ ys), [])) w' ∧ Evo E w E' w' ∧ RepA E' w' r (.own sb) := by
  have hx' := hx
  obtain ⟨A', c', inner, e0, h2, h3, h4, h5⟩ := hx'
  rw [hv] at e0
  simp only [Value.slice.injEq] at e0
  obtain ⟨rfl, rfl, rfl⟩ := e0
  by_cases h0 : 0 < ys.length
  · have hA : A = none → xs.length = 0 := by
      rintro rfl
      by_cases hi : 0 < inner.length
      · obtain ⟨b, o, e, _⟩ := h5 0 inner[0] (List.getElem?_eq_getElem hi)
        cases e
      · have := τ.sz_pos
        have h6 : xs.length * τ.sz = 0 := by omega
        rcases Nat.mul_eq_zero.1 h6 with h | h
        · exact h
        · omega
    obtain ⟨cap, cells, hr, g1, g2, g3, inner', g4, g5⟩ := app_grow hT he hE hτ hx hy hb hlim h0 ty hv hA (by omega)
    obtain ⟨E', q1, q2, q3⟩ := own_grown h hsb hn (xs := xs ++ ys) (cap := cap) (cells := cells) (inner := inner') (et := e) (w.drew.alloc (.cells cells e)) (heap_drew_new w _) (fun b hb => heap_drew_old w _ hb) (size_drew_alloc w _) rfl rfl rfl (by rw [List.length_append]; exact g1) g2 g3 (by rw [List.length_append]; exact g4) g5
    rw [List.length_append] at q3
    exact ⟨_, _, E', hr, q1, q2, q3, _, _, _, rfl⟩
  · have hx0 : xs.length = 0 := by omega
    have hy0 : ys.length = 0 := by omega
    have hr := app_none hT he hE hx hy hy0 ty
    have e1 : xs ++ ys = [] := by
      rw [List.length_eq_zero_iff.1 hx0, List.length_eq_zero_iff.1 hy0]; rfl
    rw [e1]
    obtain ⟨E', q1, q2, q3⟩ := own_same (et := e) (τ := τ) (xs := []) (v := v) (inner := []) h hsb hn (.inl ⟨A, by rw [hv, hx0], rfl, rfl⟩) rfl (fun b o n c e hc => by
      rw [hv, hx0] at e
      simp only [Value.slice.injEq] at e
      omega)
    exact ⟨_, _, E', hr, q1, q2, q3, _, _, _, hv⟩
/-- Behind a slice without room: written no more. -/
theorem app_frz (h : InvH F0 w0 E heap w) (hx : RepD E.F w (.slice τ) xs [v]) {A : Option Addr} {n : Nat} (hv : v = .slice A n n) (ty : Nat) :
    ∃ r w' E', (Builtin.append_ #[t, t] ty #[v, u]).run P w = .ok r w' ∧ InvH F0 w0 E' heap w' ∧ Evo E w E' w' ∧ RepA E' w' r (.sl τ (xs ++ ys) .any) := by
  have hx1 := there_frz hx
  have hx' := hx1
  obtain ⟨A', c', inner, e0, h2, h3, h4, h5⟩ := hx'
  rw [hv] at e0
  simp only [Value.slice.injEq] at e0
  obtain ⟨rfl, rfl, rfl⟩ := e0
  by_cases h0 : 0 < ys.length
  · have hA : A = none → xs.length = 0 := by
      rintro rfl
      by_cases hi : 0 < inner.length
      · obtain ⟨b, o, e, _⟩ := h5 0 inner[0] (List.getElem?_eq_getElem hi)
        cases e
      · have := τ.sz_pos
        have h6 : xs.length * τ.sz = 0 := by omega
        rcases Nat.mul_eq_zero.1 h6 with h | h
        · exact h
        · omega
    obtain ⟨cap, cells, hr, g1, g2, g3, inner', g4, g5⟩ := app_grow hT he hE hτ hx1 hy hb hlim h0 ty hv hA (by omega)
    obtain ⟨q1, q2, q3⟩ := frz_grown h (xs := xs ++ ys) (cap := cap) (cells := cells) (inner := inner') (et := e) (w.drew.alloc (.cells cells e)) (heap_drew_new w _) (fun b hb => heap_drew_old w _ hb) (size_drew_alloc w _) rfl rfl rfl (by rw [List.length_append]; exact g1) (by rw [List.length_append]; exact g4) g5
    rw [List.length_append] at q3
    exact ⟨_, _, _, hr, q1, q2, q3, trivial⟩
  · have hy0 : ys = [] := List.length_eq_zero_iff.1 (by omega)
    have hr := app_none hT he hE hx1 hy (by omega) ty
    subst hy0
    rw [List.append_nil]
    exact ⟨_, _, E, hr, h, Evo.refl E w, hx, trivial⟩
/-- Behind a slice of one's own. -/
theorem app_own (h : InvH F0 w0 E heap w) {k sb : Nat} (hk : k < heap.length) (hs0 : (hg heap k).1 = .buf e τ xs) (hγ : E.γ k = some v) (hsb : sb < heap.length) (hn : (hg heap sb).1 = .none) (ty : Nat) :
    ∃ r w' E', (Builtin.append_ #[t, t] ty #[v, u]).run P w = .ok r w' ∧ InvH F0 w0 E' (hs (hs heap k (.dead, [])) sb (.buf e τ (xs ++ ys), [])) w' ∧ Evo E w E' w' ∧ RepA E' w' r (.own sb) := by
  have hslot := h.slot k
  rw [hs0] at hslot
  obtain ⟨v', inner, h1, hown, hin⟩ := hslot
  rw [hγ] at h1
  obtain rfl := Option.some.inj h1
  have hx := there_own hown hin
  have hd := h.die hk []
  have hne : k ≠ sb := by rintro rfl; rw [hs0] at hn; cases hn
  have hsb' : sb < (hs heap k (.dead, [])).length := by rw [hs_len]; exact hsb
  have hn' : (hg (hs heap k (.dead, [])) sb).1 = .none := by rw [hg_hs _ _ _ _ hk, if_neg hne]; exact hn
  have hnl : ∀ b o n c, v = .slice (some ⟨b, o, none⟩) n c → 0 < c → w0.heap.size ≤ b ∧ b < w.heap.size ∧ ¬ E.F b ∧ ∀ j, ¬ Live E j (hg (hs heap k (.dead, [])) j).1 b := by
    intro b o n c ev hc
    have hl : Live E k (hg heap k).1 b := by rw [hs0]; exact ⟨o, n, c, by rw [hγ, ev], hc⟩
    obtain ⟨q1, q2, q3⟩ := h.own k b hl
    refine ⟨q1, q2, q3, fun j hj => ?_⟩
    rw [hg_hs _ _ _ _ hk] at hj
    by_cases ejk : k = j
    · rw [if_pos ejk] at hj; exact hj
    · rw [if_neg ejk] at hj; exact ejk (h.inj k j b hl hj)
  by_cases h0 : 0 < ys.length
  · rcases hown with ⟨A, e1, e2, e3⟩ | ⟨g, cap, cur, e1, e2, e3, e4, e5, e6, e7⟩
    · obtain ⟨r, w', E', q1, q2, q3, q4⟩ := app_own_full hT he hE hτ hy hb hlim hd hsb' hn' hx e1 (.inl e2) ty
      exact ⟨r, w', E', q1, q2, q3, q4⟩
    · by_cases hroom : xs.length + ys.length ≤ cap
      · obtain ⟨f, dd, z, f1, f2, f3, f4, f5, _⟩ := hE.ex
        obtain ⟨B, d, news, rfl, k2, k3, k4, k5⟩ := hy
        have hnl2 : 0 < news.length := by rw [k4]; exact Nat.mul_pos h0 τ.sz_pos
        obtain ⟨b, o, rfl, hnews⟩ := addr_of hnl2 k5
        have hsz : τ.sz = f.size := by rw [f3, hτ]
        have hil : inner.length = xs.length * τ.sz := hin.len (fun _ _ h => h.len)
        have hfit : xs.length * f.size + news.length ≤ cur.size := by rw [k4, ← hsz, e6, ← Nat.add_mul]; exact Nat.mul_le_mul_right _ hroom
        have hr := run_append_room (P := P) w t ty e f (hT.slice he) f1 g xs.length cap cur e3 ⟨b, o, none⟩ ys.length d news (by rw [k4, hsz]) hnews (fun u hu => El.one k3 u hu) hroom hfit
        rw [e1]
        have hlive : Live E k (hg heap k).1 g := by rw [hs0]; exact ⟨0, xs.length, cap, by rw [hγ, e1], e2⟩
        obtain ⟨q1, q2, q3, q4⟩ := hnl g 0 xs.length cap e1 e2
        generalize hcur' : (cur.toList.take (xs.length * f.size) ++ news ++ cur.toList.drop (xs.length * f.size + news.length)).toArray = cur' at hr
        have hrow : (w.setRow g cur').heap[g]? = some (.cells cur' e (0, 0)) := setRow_heap w g cur cur' e (0, 0) e3
        have hoth : ∀ b, b ≠ g → (w.setRow g cur').heap[b]? = w.heap[b]? := fun b hb => setRow_other w g b cur' hb
        have hev0 : Evo E w E (w.setRow g cur') := ⟨fun _ _ e => e, fun _ _ e => e, fun _ e => e, fun b hb => hoth b (fun e => q3 (e ▸ hb))⟩
        have hlen2 : (inner ++ news).length = (xs ++ ys).length * τ.sz := by rw [List.length_append, hil, k4, List.length_append, Nat.add_mul]
        have hinn : cur.toList.take (xs.length * f.size) = inner := by rw [← hsz]; exact e7
        have hsize : cur'.size = cap * τ.sz := by
          rw [← hcur', hinn]
          simp only [List.size_toArray, List.length_append, List.length_drop, Array.length_toList, hil, ← hsz]
          rw [← e6]
          rw [← hsz] at hfit
          omega
        have htake : cur'.toList.take ((xs ++ ys).length * τ.sz) = inner ++ news := by
          rw [← hcur', hinn]
          simp only
          rw [← hlen2, List.take_left]
        obtain ⟨p1, p2⟩ := hd.newγ (w' := w.setRow g cur') hsb' hn' (v := .slice (some ⟨g, 0, none⟩) (xs ++ ys).length cap) (below_of rfl rfl rfl (by simp) (fun b hb => hoth b (by omega))) hev0.heap
          (fun j' _ b hl => hoth b (fun e => q4 j' (e ▸ hl))) (s := .buf e τ (xs ++ ys)) (c := []) ⟨_, inner ++ news, by simp [updγ], .inr ⟨g, cap, cur', rfl, e2, hrow, by rw [List.length_append]; exact hroom, e5, hsize, htake⟩, (hin.app k3).imp (fun _ _ => RepD.evo hev0)⟩
          (fun b hb => by
            obtain ⟨o', n', c', e', hc'⟩ := live_upd.1 hb
            simp only [Value.slice.injEq, Option.some.injEq, Addr.mk.injEq, and_true] at e'
            obtain ⟨⟨rfl, _⟩, _⟩ := e'
            exact ⟨q1, by simpa using q2, q3, fun j' _ => q4 j'⟩)
        refine ⟨.slice (some ⟨g, 0, none⟩) (xs.length + ys.length) cap, w.setRow g cur', _, hr, p1, p2, ?_, _, _, _, rfl⟩
        simp [updγ]
      · have hA : (some (⟨g, 0, none⟩ : Addr)) = none → cap = 0 := by intro h; cases h
        obtain ⟨cap', cells, hr, g1, g2, g3, inner', g4, g5⟩ := app_grow hT he hE hτ hx hy hb hlim h0 ty e1 hA (by omega)
        obtain ⟨E', q1, q2, q3⟩ := own_grown hd hsb' hn' (xs := xs ++ ys) (cap := cap') (cells := cells) (inner := inner') (et := e) (w.drew.alloc (.cells cells e)) (heap_drew_new w _) (fun b hb => heap_drew_old w _ hb) (size_drew_alloc w _) rfl rfl rfl (by rw [List.length_append]; exact g1) g2 g3 (by rw [List.length_append]; exact g4) g5
        rw [List.length_append] at q3
        exact ⟨_, _, E', hr, q1, q2, q3, _, _, _, rfl⟩
  · have hy0 : ys = [] := List.length_eq_zero_iff.1 (by omega)
    have hr := app_none hT he hE hx hy (by omega) ty
    subst hy0
    rw [List.append_nil]
    obtain ⟨E', q1, q2, q3⟩ := own_same hd hsb' hn' hown hin hnl
    obtain ⟨A, c, _, ev, _⟩ := hx
    exact ⟨_, _, E', hr, q1, q2, q3, _, _, _, ev⟩
end
theorem ok_app (hck : tt.ck P = true) {o : Oper} {t t' sb : Nat} {own : Bool} {s x : Operand} {Q : Exit → Act → World → Prop} {ws : List Wr} (ho : o.op = .call { callee := .builtin .append, args := #[s, x], argTypes := #[t, t'] }) (hI : Inv F0 w0 E σ a w)
    (h : (semApp tt σ.nt σ.heap.length sb own o.dst t t' s x).gives σ ws) : Good P F0 w0 E o a w (σ.aps ws) Q := by
  replace h := ev1_gives hI h
  obtain ⟨sv, hsv, h⟩ := h
  replace h := ev1_gives hI h
  obtain ⟨xv, hxv, h⟩ := h
  split at h
  · rename_i i hi
    split at h
    · rename_i e he
      split at h
      · rename_i j hj
        split at h
        · rename_i τ hτ
          cases hb : (Nat.beq t t' && Nat.beq τ.sz j.n && Nat.blt 0 j.bytes)
          · rw [hb] at h; exact absurd h Rd.gives_fail
          · rw [hb, cond_true] at h
            simp only [Bool.and_eq_true] at hb
            have htt := Nat.eq_of_beq_eq_true hb.1.1
            have hsz := Nat.eq_of_beq_eq_true hb.1.2
            have hpos : 0 < j.bytes := Nat.le_of_ble_eq_true hb.2
            subst htt
            replace h := rdx_gives hI hxv h
            obtain ⟨ys, hy, h⟩ := h
            have hT := TT.fact hck hi
            have hE := TT.fact hck hj
            have run : ∀ {r : Value} {w' : World}, (Builtin.append_ #[t, t] o.type #[a.eval s, a.eval x]).run P w = .ok r w' → (execOp a.eval o).run P w = .ok (.value r) w' := by
              intro r w' h
              simp [execOp, ho, resolve, invoke, builtin, h]
            split at h
            · -- nil
              have hsv : a.eval s = .slice none 0 0 := hsv
              obtain ⟨hlim, h⟩ := Rd.gives_need.1 h
              have hlim : (([] : List τ.T).length + ys.length) * j.bytes ≤ 140737488355328 := by simpa using hlim
              have hx : RepD E.F w (.slice τ) [] [a.eval s] := ⟨none, 0, [], by rw [hsv]; rfl, Nat.le_refl _, rfl, fun j u hu => by simp at hu⟩
              cases own
              · obtain ⟨r, w', E', q1, q2, q3, q4⟩ := app_frz hT he hE hsz hy hpos hlim hI.heap hx hsv o.type
                exact good_one' (run q1) (hI.evo q3 q2) q3 rfl h q4
              · obtain ⟨h1, h2, h⟩ := free_gives h
                obtain ⟨r, w', E', q1, q2, q3, q4⟩ := app_own_full hT he hE hsz hy hpos hlim hI.heap h1 h2 (there_frz hx) hsv (.inl rfl) o.type
                exact good_one' (run q1) (hI.evo q3 q2) q3 rfl h q4
            · rename_i e' xs0 c
              obtain ⟨rfl, h⟩ := cst_gives h
              have hcap : ∃ A n, a.eval s = .slice A n n ∧ c.tight = true := by
                obtain ⟨A, c', inner, ev, h2, _⟩ := slice_parts hsv.1
                cases c with
                | any => exact absurd h Rd.gives_fail
                | full =>
                  have := hsv.2
                  rw [ev] at this
                  have this : c' = xs0.length := this
                  exact ⟨A, _, by rw [ev, this], rfl⟩
                | nil => exact ⟨none, 0, hsv.2, rfl⟩
                | nn => exact absurd h Rd.gives_fail
                | nl => exact absurd h Rd.gives_fail
              obtain ⟨A, n, hv, hc⟩ := hcap
              rw [hc, cond_true] at h
              obtain ⟨hlim, h⟩ := Rd.gives_need.1 h
              cases own
              · obtain ⟨r, w', E', q1, q2, q3, q4⟩ := app_frz hT he hE hsz hy hpos hlim hI.heap hsv.1 hv o.type
                exact good_one' (run q1) (hI.evo q3 q2) q3 rfl h q4
              · rw [cond_true] at h
                obtain ⟨hor, h⟩ := Rd.gives_need.1 h
                obtain ⟨h1, h2, h⟩ := free_gives h
                obtain ⟨r, w', E', q1, q2, q3, q4⟩ := app_own_full hT he hE hsz hy hpos hlim hI.heap h1 h2 (there_frz hsv.1) hv hor o.type
                exact good_one' (run q1) (hI.evo q3 q2) q3 rfl h q4
            · rename_i k
              replace h := Rd.gives_slot.1 h
              split at h
              · rename_i et e' xs0 hs
                cases hb2 : (Nat.beq et e && own)
                · rw [hb2] at h; exact absurd h Rd.gives_fail
                · rw [hb2, cond_true] at h
                  simp only [Bool.and_eq_true] at hb2
                  have het := Nat.eq_of_beq_eq_true hb2.1
                  subst het
                  obtain ⟨rfl, h⟩ := cst_gives h
                  obtain ⟨hlim, h⟩ := Rd.gives_need.1 h
                  obtain ⟨h1, h2, h⟩ := free_gives h
                  have hkl : k < σ.heap.length := hg_lt (by rw [hs]; simp)
                  obtain ⟨r, w', E', q1, q2, q3, q4⟩ := app_own hT he hE hsz hy hpos hlim hI.heap hkl hs hsv.1 h1 h2 o.type
                  exact good_one' (run q1) (hI.evo q3 q2) q3 rfl h q4
              · exact absurd h Rd.gives_fail
            · exact absurd h Rd.gives_fail
        · exact absurd h Rd.gives_fail
      · exact absurd h Rd.gives_fail
    · exact absurd h Rd.gives_fail
  · exact absurd h Rd.gives_fail
end
end Go.Proofs.YtkhjemahenkdiaaGreatDoor.V
