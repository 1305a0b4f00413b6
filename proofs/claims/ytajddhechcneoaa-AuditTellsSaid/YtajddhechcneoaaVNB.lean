/- A list of things that hold a slice each, one of which is kept apart: how it is made, and made longer. -/
import Derived.Test.YtajddhechcneoaaVNA
import Derived.Deep.AppendSrc
namespace Go.Proofs.Ytajddhechcneoaa.V
open Go Go.RowKit
set_option linter.unusedVariables false
set_option linter.unusedSimpArgs false
section
variable {P : Program} {F0 : Nat → Prop} {w0 : World} {E : En} {σ : St} {a : Act} {w : World} {tt : TT} {heap : Heap}
theorem app_raw {t e : Nat} {i j : TI} (hT : TF P t i) (he : i.elem = some e) (hE : TF P e j) {v : Value} {inner news : List Value} {n cx : Nat} {ad : Addr} (hO : Own w e j.n v n inner) (hil : inner.length = n * j.n) (hb : 0 < j.bytes) (hl : news.length = j.n)
    (hnews : ∀ q u, news[q]? = some u → w.cell? (ad.add q) = some u) (h1 : ∀ u ∈ news, u.oneCell' = true) (hlim : (n + 1) * j.bytes ≤ 140737488355328) (ty : Nat) :
    ∃ v' w', (Builtin.append_ #[t, t] ty #[v, .slice (some ad) 1 cx]).run P w = .ok v' w' ∧ Own w' e j.n v' (n + 1) (inner ++ news) ∧ (∀ b, b < w.heap.size → (∀ o m c, v = .slice (some ⟨b, o, none⟩) m c → c = 0) → w'.heap[b]? = w.heap[b]?) ∧ w.heap.size ≤ w'.heap.size ∧
      (∀ b o m c, v' = .slice (some ⟨b, o, none⟩) m c → 0 < c → (∃ o m c, v = .slice (some ⟨b, o, none⟩) m c ∧ 0 < c) ∨ w.heap.size ≤ b ∧ b < w'.heap.size) ∧ w'.os = w.os ∧ w'.tape = w.tape ∧ w'.output = w.output := by
  obtain ⟨f, d, z, e1, e2, e3, e4, e5, _, _, e8, _⟩ := hE.ex
  have ht := hT.slice he
  have hzs : z.cells.size = j.n := by
    have := (zall_ok (E0 fun _ => False) w e8).len
    rw [Array.length_toList, hE.zl] at this
    exact this
  have hmx : n + 1 ≤ maxLen := by
    have := Nat.le_trans (Nat.le_mul_of_pos_right (n + 1) hb) hlim
    unfold maxLen; omega
  have h63 : ((n + 1 : Nat) : Int) ≤ 9223372036854775807 := by unfold maxLen at hmx; omega
  have hn1 : (n + 1) * j.n = n * j.n + j.n := Nat.succ_mul n j.n
  have hlen : (inner ++ news).length = (n + 1) * j.n := by rw [List.length_append, hil, hl, hn1]
  have fin : ∀ (base : Option Addr) (c : Nat), v = .slice base n c → c < n + 1 → (∀ a, base = some a → ∀ j u, inner[j]? = some u → w.cell? (a.add j) = some u) → (base = none → inner = []) → _ := fun base c hv h2 h4 h5 => by
    have hr := run_append_grow_src (P := P) w t t ty e f z ht e1 e5 base n c inner (by
      cases base with
      | none =>
        have := h5 rfl
        subst this
        have h0 : n * f.size = 0 := by rw [e3]; exact hil.symm
        simp [Builtin.firstCells]
      | some a => exact run_firstCells_some w.drew f.size n a n c inner (by rw [e3]; exact hil) (fun j u hj => h4 a rfl j u hj)) _ 1 news (Src.ofSlice w ht ad 1 cx news (by rw [e3, Nat.one_mul]; exact hl) hnews h1) h2 h63 (by rw [e4]; exact growslice_fits h2 hlim)
    have hge := grownCap_ge w (n + 1) c e
    refine (⟨_, _, by rw [hv]; exact hr, .inr ⟨_, _, _, rfl, by omega, heap_drew_new w _, hge, grownCap_le_maxLen w (n + 1) c e hmx, ?_, ?_⟩, fun b hb _ => heap_drew_old w _ hb, by simp, fun b o m c' e hc => ?_, rfl, rfl, rfl⟩ : ∃ v' w', (Builtin.append_ #[t, t] ty #[v, .slice (some ad) 1 cx]).run P w = .ok v' w' ∧ Own w' e j.n v' (n + 1) (inner ++ news) ∧ (∀ b, b < w.heap.size → (∀ o m c, v = .slice (some ⟨b, o, none⟩) m c → c = 0) → w'.heap[b]? = w.heap[b]?) ∧ w.heap.size ≤ w'.heap.size ∧
      (∀ b o m c, v' = .slice (some ⟨b, o, none⟩) m c → 0 < c → (∃ o m c, v = .slice (some ⟨b, o, none⟩) m c ∧ 0 < c) ∨ w.heap.size ≤ b ∧ b < w'.heap.size) ∧ w'.os = w.os ∧ w'.tape = w.tape ∧ w'.output = w.output)
    · have hzl : ∀ m, (Builtin.zeroCells z.cells m).size = m * j.n := fun m => by simp [Builtin.zeroCells, hzs]
      simp only [Array.size_append, List.size_toArray, hzl, hlen]
      rw [← Nat.add_mul]
      congr 1
      omega
    · rw [Array.toList_append, show ∀ l : List Value, l.toArray.toList = l from fun _ => rfl, List.take_append_of_le_length (by rw [hlen]; exact Nat.le_refl _), List.take_of_length_le (by rw [hlen]; exact Nat.le_refl _)]
    · simp only [Value.slice.injEq, Option.some.injEq, Addr.mk.injEq] at e
      obtain ⟨⟨rfl, _⟩, _⟩ := e
      exact .inr ⟨Nat.le_refl _, by simp⟩
  rcases hO with ⟨A, k1, k2, k3⟩ | ⟨g, cap, cur, k1, k2, k3, k4, k5, k6, k7⟩
  · subst k2
    exact fin A 0 k1 (by omega) (fun a _ j u hu => by rw [k3] at hu; simp at hu) (fun _ => k3)
  · by_cases hroom : n + 1 ≤ cap
    · subst k1
      have hfit : n * f.size + news.length ≤ cur.size := by rw [e3, hl, k6, ← Nat.succ_mul]; exact Nat.mul_le_mul_right _ hroom
      refine ⟨_, _, run_append_room (P := P) w t ty e f ht e1 g n cap cur k3 ad 1 cx news (by rw [e3, Nat.one_mul]; exact hl) hnews h1 hroom hfit, .inr ⟨g, cap, _, rfl, k2, setRow_heap w g cur _ e (0, 0) k3, hroom, k5, ?_, ?_⟩, fun b hb hnb => setRow_other w g b _ (fun e => by
          subst e
          have := hnb 0 n cap rfl
          omega), by simp, fun b o m c' e hc => ?_, rfl, rfl, rfl⟩
      · rw [e3, hl] at hfit ⊢
        simp only [List.size_toArray, List.length_append, List.length_take, List.length_drop, Array.length_toList, hl]
        omega
      · rw [e3, hl, k7]
        show List.take ((n + 1) * j.n) (inner ++ news ++ _) = _
        rw [List.take_append_of_le_length (by rw [hlen]; exact Nat.le_refl _), List.take_of_length_le (by rw [hlen]; exact Nat.le_refl _)]
      · simp only [Value.slice.injEq, Option.some.injEq, Addr.mk.injEq] at e
        obtain ⟨⟨rfl, _⟩, _⟩ := e
        exact .inl ⟨0, n, cap, rfl, k2⟩
    · exact fin (some ⟨g, 0, none⟩) cap k1 (by omega) (fun a ha j u hu => by
        obtain rfl := Option.some.inj ha
        rw [Addr.add_plain, Nat.zero_add, cell_of_row _ _ _ _ _ _ k3]
        rw [← k7, List.getElem?_take] at hu
        split at hu
        · simpa using hu
        · cases hu) (fun h => by cases h)
/-- A slice of one's own is given up for another one, told otherwise. -/
theorem own_trade' (h : InvH F0 w0 E heap w) {k sb : Nat} (hk : k < heap.length) {s0 : Sl} (hs0 : (hg heap k).1 = s0) (hsb : sb < heap.length) (hn : (hg heap sb).1 = .none) (hne : k ≠ sb) {w' : World} {v : Value} {s : Sl} {c : List AV}
    (hw : ∀ b, b < w.heap.size → ¬ Live E k s0 b → w'.heap[b]? = w.heap[b]?) (hos : w'.os = w.os) (hta : w'.tape = w.tape) (hou : w'.output = w.output) (hsz : w.heap.size ≤ w'.heap.size)
    (hsl : Evo E w (updγ E sb v) w' → SlotOk (updγ E sb v) w' sb s c) (hb : ∀ b, Live (updγ E sb v) sb s b → Live E k s0 b ∨ w.heap.size ≤ b ∧ b < w'.heap.size) :
    ∃ E', InvH F0 w0 E' (hs (hs heap k (.dead, [])) sb (s, c)) w' ∧ Evo E w E' w' ∧ E'.γ sb = some v := by
  subst hs0
  have hd := h.die hk []
  have hsb' : sb < (hs heap k (.dead, [])).length := by rw [hs_len]; exact hsb
  have hn' : (hg (hs heap k (.dead, [])) sb).1 = .none := by rw [hg_hs _ _ _ _ hk, if_neg hne]; exact hn
  have hF : ∀ b, E.F b → w'.heap[b]? = w.heap[b]? := fun b hb => hw b (h.fz b hb) fun hl => (h.own k b hl).2.2 hb
  obtain ⟨hβ0, hγ0⟩ := none_of h hn
  have hev : Evo E w (updγ E sb v) w' := ⟨fun _ _ e => e, fun j u e => by
    show (if j = sb then _ else _) = _
    by_cases ej : j = sb
    · subst ej; rw [hγ0] at e; cases e
    · rw [if_neg ej]; exact e, fun _ e => e, hF⟩
  have hlj : ∀ j b, Live E j (hg (hs heap k (.dead, [])) j).1 b → j ≠ k ∧ Live E j (hg heap j).1 b := by
    intro j b hl
    rw [hg_hs _ _ _ _ hk] at hl
    by_cases e : k = j
    · rw [if_pos e] at hl; exact hl.elim
    · rw [if_neg e] at hl; exact ⟨fun e' => e e'.symm, hl⟩
  obtain ⟨q1, q2⟩ := hd.newγ (w' := w') hsb' hn' (v := v) (below_of hos hta hou hsz (fun b hb => hw b (by have := h.below.size; omega) fun hl => by have := (h.own k b hl).1; omega)) hF
    (fun j _ b hl => hw b (h.own j b (hlj j b hl).2).2.1 fun hl' => (hlj j b hl).1 (h.inj j k b (hlj j b hl).2 hl')) (s := s) (c := c) (hsl hev) (fun b hl => by
      rcases hb b hl with hl | ⟨h1, h2⟩
      · obtain ⟨p1, p2, p3⟩ := h.own k b hl
        exact ⟨p1, by omega, p3, fun j _ hl' => (hlj j b hl').1 (h.inj j k b (hlj j b hl').2 hl)⟩
      · exact ⟨by have := h.below.size; omega, h2, fun hF => by have := h.fz b hF; omega, fun j _ hl' => by have := (h.own j b (hlj j b hl').2).2.1; omega⟩)
  exact ⟨_, q1, q2, by simp [updγ]⟩
def lastOwn : List AV → Option (List AV × Nat)
  | [] => none
  | [.own B] => some ([], B)
  | x :: r => match lastOwn r with
    | some (l, B) => some (x :: l, B)
    | none => none
theorem lastOwn_ok : ∀ {l m : List AV} {B : Nat}, lastOwn l = some (m, B) → l = m ++ [.own B]
  | [], _, _, h => by cases h
  | [x], m, B, h => by
    cases x <;> simp [lastOwn] at h
    obtain ⟨rfl, rfl⟩ := h
    rfl
  | x :: y :: r, m, B, h => by
    have h' : (match lastOwn (y :: r) with | some (l, B) => some (x :: l, B) | none => none) = some (m, B) := by
      cases x <;> exact h
    split at h'
    · rename_i l B' hl
      simp only [Option.some.injEq, Prod.mk.injEq] at h'
      obtain ⟨rfl, rfl⟩ := h'
      rw [lastOwn_ok hl]
      rfl
    · cases h'
def semBuildLnk (tt : TT) (nt : Nat) (dst : Option Nat) (t len : Nat) (parts : Array (Nat × Operand)) : Rd := evp parts.toList fun l => match tt.at t with
  | some i => match i.elem with
    | some e => match tt.at e with
      | some j => match j.ty with
        | some (.pair a (.slice b)) => cond (Nat.beq (a.sz + 1) j.n && Nat.ble (len * j.n) 16777216 && Nat.beq len 1) (match afill (fun k => some (k * j.n, j.n)) (List.replicate (len * j.n) .bad) l with
          | some c => match lastOwn c with
            | some (m, B) => match dec a m with
              | some x => fin nt dst [] (.cv (.one (.lsl a x B)))
              | none => .fail
            | none => .fail
          | none => .fail) .fail
        | _ => .fail
      | none => .fail
    | none => .fail
  | none => .fail
theorem ok_buildLnk (hck : tt.ck P = true) {o : Oper} {t len : Nat} {parts : Array (Nat × Operand)} {Q : Exit → Act → World → Prop} {ws : List Wr} (ho : o.op = .buildSlice t len parts) (hI : Inv F0 w0 E σ a w) (h : (semBuildLnk tt σ.nt o.dst t len parts).gives σ ws) : Good P F0 w0 E o a w (σ.aps ws) Q := by
  replace h := evp_gives hI h
  obtain ⟨l, hl, h⟩ := h
  split at h
  · rename_i i hi
    split at h
    · rename_i e he
      split at h
      · rename_i j hj
        split at h
        · rename_i a' b' hτ
          cases hb : (Nat.beq (a'.sz + 1) j.n && Nat.ble (len * j.n) 16777216 && Nat.beq len 1)
          · rw [hb] at h; exact absurd h Rd.gives_fail
          · rw [hb, cond_true] at h
            simp only [Bool.and_eq_true] at hb
            have hsz := Nat.eq_of_beq_eq_true hb.1.1
            have hlim := Nat.le_of_ble_eq_true hb.1.2
            obtain rfl := Nat.eq_of_beq_eq_true hb.2
            split at h
            · rename_i c hc
              split at h
              · rename_i m B hm
                split at h
                · rename_i x hx
                  obtain ⟨cs', hrun, hr, hcs⟩ := bs_run (τ := .pair a' (.slice b')) hck ho hi he hj hsz hlim hl hc
                  rw [lastOwn_ok hm] at hr
                  have hml : m.length = a'.sz := by
                    have h1 := afill_len hc
                    rw [lastOwn_ok hm, List.length_replicate, List.length_append, List.length_singleton] at h1
                    omega
                  have hlen := hr.len
                  have hr1 := hr.take m.length
                  have hr2 := hr.drop m.length
                  rw [List.take_left] at hr1
                  rw [List.drop_left] at hr2
                  obtain ⟨vB, hv1, hv2, hv3⟩ := RepL.single hr2
                  have hsplit : cs'.toList = cs'.toList.take m.length ++ [vB] := by rw [← hv1, List.take_append_drop]
                  obtain ⟨p1, p2⟩ := hI.heap.fz_new (.cells cs' e)
                  refine good_one' hrun (hI.evo p2 p1) p2 rfl h ⟨w.heap.size, cs'.toList.take m.length, vB, hv2, hv3, rfl, (RepD.dec hr1 hx).evo p2, fun q u hq => ⟨.inr rfl, ?_⟩⟩
                  rw [← hsplit] at hq
                  rw [cell_of_row _ _ _ _ _ _ (heap_new w _)]
                  simpa using hq
                · exact absurd h Rd.gives_fail
              · exact absurd h Rd.gives_fail
            · exact absurd h Rd.gives_fail
        · exact absurd h Rd.gives_fail
      · exact absurd h Rd.gives_fail
    · exact absurd h Rd.gives_fail
  · exact absurd h Rd.gives_fail
def asPair (τ : Ty) (ys : List τ.T) (k : (a b : Ty) → List (a.T × List b.T) → Rd) : Rd := match τ, ys with
  | .pair a (.slice b), ys => k a b ys
  | _, _ => .fail
theorem asPair_gives {τ : Ty} {ys : List τ.T} {k : (a b : Ty) → List (a.T × List b.T) → Rd} {ws : List Wr} (h : (asPair τ ys k).gives σ ws) : ∃ a b, ∃ zs : List (a.T × List b.T), τ = .pair a (.slice b) ∧ HEq zs ys ∧ (k a b zs).gives σ ws := by
  unfold asPair at h
  split at h
  · exact ⟨_, _, _, rfl, HEq.rfl, h⟩
  · exact absurd h Rd.gives_fail
def semAppL (tt : TT) (nt hn sb : Nat) (dst : Option Nat) (t t' : Nat) (s x : Operand) : Rd := ev1 s fun sv => ev1 x fun xv => match tt.at t, sv with
  | some i, .own m => match i.elem with
    | some e => match tt.at e with
      | some j => cond (Nat.beq t t' && Nat.blt 0 j.bytes) (.slot m fun z => match z, xv with
        | .buf et τ ys, .lsl a x0 B => asPair τ ys (fun a' b ys => cond (Nat.beq et e && Nat.beq (a'.sz + 1) j.n) (cst a a' [x0] fun x0 => match x0 with
            | [x0] => .need ((ys.length + 1) * j.bytes ≤ 140737488355328) (free hn sb (fin nt dst [.slot m .dead [], .slot sb (.lnk e a' b (ys ++ [(x0, [])]) B ys.length) []] (.cv (.one (.own sb)))))
            | _ => .fail) .fail)
        | .lnk et a b xs B q, xv => cond (Nat.beq et e && Nat.beq (a.sz + 1) j.n) (rdx xv (.pair a (.slice b)) fun ys => .need (ys.length = 1) (.need ((xs.length + 1) * j.bytes ≤ 140737488355328) (free hn sb (fin nt dst [.slot m .dead [], .slot sb (.lnk e a b (xs ++ ys) B q) []] (.cv (.one (.own sb))))))) .fail
        | _, _ => .fail) .fail
      | none => .fail
    | none => .fail
  | _, _ => .fail
theorem ok_appL (hck : tt.ck P = true) {o : Oper} {t t' sb : Nat} {s x : Operand} {Q : Exit → Act → World → Prop} {ws : List Wr} (ho : o.op = .call { callee := .builtin .append, args := #[s, x], argTypes := #[t, t'] }) (hI : Inv F0 w0 E σ a w)
    (h : (semAppL tt σ.nt σ.heap.length sb o.dst t t' s x).gives σ ws) : Good P F0 w0 E o a w (σ.aps ws) Q := by
  replace h := ev1_gives hI h
  obtain ⟨sv, hsv, h⟩ := h
  replace h := ev1_gives hI h
  obtain ⟨xv, hxv, h⟩ := h
  split at h
  · rename_i i m hi
    split at h
    · rename_i e he
      split at h
      · rename_i j hj
        cases hb : (Nat.beq t t' && Nat.blt 0 j.bytes)
        · rw [hb] at h; exact absurd h Rd.gives_fail
        · rw [hb, cond_true] at h
          simp only [Bool.and_eq_true] at hb
          obtain rfl := Nat.eq_of_beq_eq_true hb.1
          have hpos : 0 < j.bytes := Nat.le_of_ble_eq_true hb.2
          have hT := TT.fact hck hi
          have hE := TT.fact hck hj
          have run : ∀ {r : Value} {w' : World}, (Builtin.append_ #[t, t] o.type #[a.eval s, a.eval x]).run P w = .ok r w' → (execOp a.eval o).run P w = .ok (.value r) w' := by
            intro r w' h
            simp [execOp, ho, resolve, invoke, builtin, h]
          replace h := Rd.gives_slot.1 h
          have hk := hI.heap.slot m
          split at h
          · rename_i et τ ys a0 x0 B hs
            rw [hs] at hk
            · replace h := asPair_gives h
              obtain ⟨a', b', zs, rfl, hq, h⟩ := h
              have hq := (eq_of_heq hq).symm
              subst hq
              cases hb2 : (Nat.beq et e && Nat.beq (a'.sz + 1) j.n)
              · rw [hb2] at h; exact absurd h Rd.gives_fail
              · rw [hb2, cond_true] at h
                simp only [Bool.and_eq_true] at hb2
                obtain rfl := Nat.eq_of_beq_eq_true hb2.1
                have hsz := Nat.eq_of_beq_eq_true hb2.2
                replace h := cst_gives2 h
                obtain ⟨rfl, zs, hq, h⟩ := h
                have hq := eq_of_heq hq
                subst hq
                simp only at h
                obtain ⟨hlim, h⟩ := Rd.gives_need.1 h
                obtain ⟨f1, f2, h⟩ := free_gives h
                obtain ⟨u, inner, h1, hO, hEl⟩ := hk
                have h3 := hsv.1
                rw [h1] at h3
                obtain rfl := Option.some.inj h3
                obtain ⟨k, c1, vB, g1, g2, g3, g4, g5⟩ := hxv
                have hml : m < σ.heap.length := hg_lt (by rw [hs]; simp)
                have hne : m ≠ sb := by rintro rfl; rw [hs] at f2; cases f2
                have hBne : B ≠ sb := by rintro rfl; rw [(none_of hI.heap f2).2] at g1; cases g1
                have hil : inner.length = ys.length * j.n := by rw [← hsz]; exact hEl.len (s := a0.sz + 1) (fun _ _ h => h.len)
                have hO' : Own w et j.n (a.eval s) ys.length inner := by rw [← hsz]; exact hO
                have hnl : (c1 ++ [vB]).length = j.n := by rw [List.length_append, g4.len]; exact hsz
                obtain ⟨A, n, c, hvB⟩ := g2
                obtain ⟨v', w', r1, r2, r3, r4, r5, r6, r7, r8⟩ := app_raw hT he hE hO' hil hpos hnl (ad := ⟨k, 0, none⟩) (cx := 1) (fun q u hq => by rw [Addr.add_plain, Nat.zero_add]; exact (g5 q u hq).2) (fun u hu => by
                  rcases List.mem_append.1 hu with h | h
                  · exact g4.one u h
                  · rw [List.mem_singleton.1 h, hvB]; rfl) hlim o.type
                have hlive : ∀ b, Live E m (.buf et (.pair a0 (.slice b')) ys) b ↔ ∃ o m c, a.eval s = .slice (some ⟨b, o, none⟩) m c ∧ 0 < c := by
                  intro b; simp [Live, h1]
                have hsl' : ∃ A n c, v' = .slice A n c := by
                  rcases r2 with ⟨A, e, _⟩ | ⟨g, cap, cur, e, _⟩
                  · exact ⟨_, _, _, e⟩
                  · exact ⟨_, _, _, e⟩
                have hlen : (ys ++ [(x0, ([] : List b'.T))]).length = ys.length + 1 := by simp
                obtain ⟨E', p1, p2, p3⟩ := own_trade' hI.heap hml hs f1 f2 hne (w' := w') (v := v') (s := .lnk et a0 b' (ys ++ [(x0, [])]) B ys.length) (c := []) (fun b hb hl => r3 b hb fun o m c e => Nat.eq_zero_of_not_pos fun hc => hl ((hlive b).2 ⟨o, m, c, e, hc⟩)) r6 r7 r8 r4
                  (fun hev => ⟨v', vB, inner, c1, [], (x0, []), by simp [updγ], by simp [updγ, hBne, g1], ⟨A, n, c, hvB⟩, by rw [hlen, List.append_nil, hsz]; exact r2, by simp, by rw [List.take_left]; exact hEl.imp (fun _ _ => RepD.evo hev), g4.evo hev, by rw [List.drop_of_length_le (by rw [hlen]; exact Nat.le_refl _)]; rfl⟩)
                  (fun b hb => by
                    obtain ⟨o, n', c', e', hc'⟩ : ∃ o n c, v' = .slice (some ⟨b, o, none⟩) n c ∧ 0 < c := by simpa [Live, updγ] using hb
                    rcases r5 b o n' c' e' hc' with hl | hr
                    · exact .inl ((hlive b).2 hl)
                    · exact .inr hr)
                exact good_one' (hw := [.slot m .dead [], .slot sb (.lnk et a0 b' (ys ++ [(x0, [])]) B ys.length) []]) (run (by rw [g3]; exact r1)) (hI.evo p2 p1) p2 rfl h ⟨p3, hsl'⟩
          · rename_i et a0 b' xs B q hs
            rw [hs] at hk
            cases hb2 : (Nat.beq et e && Nat.beq (a0.sz + 1) j.n)
            · rw [hb2] at h; exact absurd h Rd.gives_fail
            · rw [hb2, cond_true] at h
              simp only [Bool.and_eq_true] at hb2
              obtain rfl := Nat.eq_of_beq_eq_true hb2.1
              have hsz := Nat.eq_of_beq_eq_true hb2.2
              replace h := rdx_gives hI hxv h
              obtain ⟨ys, ⟨B', cx, news, ey, k2, k3, k4, k5⟩, h⟩ := h
              obtain ⟨hy1, h⟩ := Rd.gives_need.1 h
              obtain ⟨hlim, h⟩ := Rd.gives_need.1 h
              obtain ⟨f1, f2, h⟩ := free_gives h
              obtain ⟨u, vB, i1, c1, i2, x0, h1, h2, h5, hO, h7, h8, h9, h10⟩ := hk
              have h3 := hsv.1
              rw [h1] at h3
              obtain rfl := Option.some.inj h3
              have hml : m < σ.heap.length := hg_lt (by rw [hs]; simp)
              have hne : m ≠ sb := by rintro rfl; rw [hs] at f2; cases f2
              have hBne : B ≠ sb := by rintro rfl; rw [(none_of hI.heap f2).2] at h2; cases h2
              have hql : q < xs.length := (List.getElem?_eq_some_iff.1 h7).1
              have hnl : news.length = j.n := by rw [k4, hy1, Nat.one_mul]; exact hsz
              have hil : (i1 ++ (c1 ++ [vB]) ++ i2).length = xs.length * j.n := by
                have e1 := h8.len (s := a0.sz + 1) (fun _ _ h => h.len)
                have e2 := h10.len (s := a0.sz + 1) (fun _ _ h => h.len)
                rw [List.length_take, Nat.min_eq_left (by omega)] at e1
                rw [List.length_drop] at e2
                simp only [List.length_append, List.length_singleton, e1, e2, h9.len, hsz]
                rw [← Nat.succ_mul, ← Nat.add_mul]
                congr 1
                omega
              have hO' : Own w et j.n (a.eval s) xs.length (i1 ++ (c1 ++ [vB]) ++ i2) := by rw [← hsz]; exact hO
              have hsz0 : 0 < j.n := by omega
              obtain ⟨kb, ko, rfl, hnews⟩ := addr_of (by omega) k5
              rw [hy1] at ey
              obtain ⟨v', w', r1, r2, r3, r4, r5, r6, r7, r8⟩ := app_raw hT he hE hO' hil hpos hnl (ad := ⟨kb, ko, none⟩) (cx := cx) hnews (El.one k3) hlim o.type
              have hlive : ∀ b, Live E m (.lnk et a0 b' xs B q) b ↔ ∃ o m c, a.eval s = .slice (some ⟨b, o, none⟩) m c ∧ 0 < c := by
                intro b; simp [Live, h1]
              have hsl' : ∃ A n c, v' = .slice A n c := by
                rcases r2 with ⟨A, e, _⟩ | ⟨g, cap, cur, e, _⟩
                · exact ⟨_, _, _, e⟩
                · exact ⟨_, _, _, e⟩
              have hlen : (xs ++ ys).length = xs.length + 1 := by simp [hy1]
              obtain ⟨E', p1, p2, p3⟩ := own_trade' hI.heap hml hs f1 f2 hne (w' := w') (v := v') (s := .lnk et a0 b' (xs ++ ys) B q) (c := []) (fun b hb hl => r3 b hb fun o m c e => Nat.eq_zero_of_not_pos fun hc => hl ((hlive b).2 ⟨o, m, c, e, hc⟩)) r6 r7 r8 r4
                (fun hev => ⟨v', vB, i1, c1, i2 ++ news, x0, by simp [updγ], by simp [updγ, hBne, h2], h5, by rw [hlen, ← List.append_assoc, hsz]; exact r2, by rw [List.getElem?_append_left hql]; exact h7, by rw [List.take_append_of_le_length (by omega)]; exact h8.imp (fun _ _ => RepD.evo hev), h9.evo hev, by rw [List.drop_append_of_le_length (by omega)]; exact (h10.app k3).imp (fun _ _ => RepD.evo hev)⟩)
                (fun b hb => by
                  obtain ⟨o, n', c', e', hc'⟩ : ∃ o n c, v' = .slice (some ⟨b, o, none⟩) n c ∧ 0 < c := by simpa [Live, updγ] using hb
                  rcases r5 b o n' c' e' hc' with hl | hr
                  · exact .inl ((hlive b).2 hl)
                  · exact .inr hr)
              exact good_one' (hw := [.slot m .dead [], .slot sb (.lnk et a0 b' (xs ++ ys) B q) []]) (run (by rw [ey]; exact r1)) (hI.evo p2 p1) p2 rfl h ⟨p3, hsl'⟩
          · exact absurd h Rd.gives_fail
      · exact absurd h Rd.gives_fail
    · exact absurd h Rd.gives_fail
  · exact absurd h Rd.gives_fail
end
end Go.Proofs.Ytajddhechcneoaa.V
