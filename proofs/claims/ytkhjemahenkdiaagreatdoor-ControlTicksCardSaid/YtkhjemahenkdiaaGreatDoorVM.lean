/- What an operation reads and writes, without memory; each against the model. Part 10: make, copy. -/
import Derived.Test.YtkhjemahenkdiaaGreatDoorVL
import Derived.Laws.MakeOwn
namespace Go.Proofs.YtkhjemahenkdiaaGreatDoor.V
open Go Go.RowKit
set_option linter.unusedVariables false
set_option linter.unusedSimpArgs false
section
variable {P : Program} {F0 : Nat → Prop} {w0 : World} {E : En} {σ : St} {a : Act} {w : World} {tt : TT} {heap : Heap}
theorem made_el {τ : Ty} {z0 : τ.T} {z : Array Value} (hs : z.size = τ.sz) (hz : RepD E.F w τ z0 z.toList) : ∀ n : Nat, El (RepD E.F w τ) (List.replicate n z0) (madeCells z (n * τ.sz)).toList
  | 0 => by simp [madeCells, El, Array.range_zero']
  | n + 1 => by
    have hp := τ.sz_pos
    have ih := made_el hs hz n
    refine ⟨z.toList, (madeCells z (n * τ.sz)).toList, ?_, hz, ih⟩
    unfold madeCells
    simp only [Array.toList_map, Array.toList_range]
    rw [show (n + 1) * τ.sz = τ.sz + n * τ.sz by rw [Nat.succ_mul, Nat.add_comm], List.range_add, List.map_append, List.map_map]
    congr 1
    · apply List.ext_getElem?
      intro q
      simp only [List.getElem?_map, List.getElem?_range']
      by_cases hq : q < τ.sz
      · rw [List.getElem?_range hq]
        simp only [Option.map_some]
        rw [hs, Nat.mod_eq_of_lt hq, getElem!_pos z q (by omega)]
        simp [show q < z.size by omega]
      · rw [List.getElem?_eq_none (by simp; omega), List.getElem?_eq_none (by simp; omega)]
        rfl
    · apply List.map_congr_left
      intro q _
      simp only [Function.comp]
      rw [hs, Nat.add_mod_left]
def semMake (tt : TT) (nt hn sb : Nat) (own : Bool) (dst : Option Nat) (t : Nat) (l c : Operand) : Rd := ev1 l fun lv => ev1 c fun cv => match lv, cv, tt.at t with
  | .int _ p, .int _ q, some i => match i.elem with
    | some e => match tt.at e with
      | some j => match j.ty with
        | some τ => match dec τ j.zero with
          | some z0 => cond (Nat.beq τ.sz j.n) (.need (0 ≤ p ∧ q = p ∧ (j.bytes : Int) * p ≤ 140737488355328 ∧ p ≤ 140737488355328) (cond own (free hn sb (fin nt dst [.slot sb (.buf e τ (List.replicate p.toNat z0)) []] (.cv (.one (.own sb))))) (fin nt dst [] (.cv (.one (.sl τ (List.replicate p.toNat z0) .full)))))) .fail
          | none => .fail
        | none => .fail
      | none => .fail
    | none => .fail
  | _, _, _ => .fail
theorem ok_make (hck : tt.ck P = true) {o : Oper} {t sb : Nat} {own : Bool} {l c : Operand} {Q : Exit → Act → World → Prop} {ws : List Wr} (ho : o.op = .makeSlice t l c) (hI : Inv F0 w0 E σ a w) (h : (semMake tt σ.nt σ.heap.length sb own o.dst t l c).gives σ ws) : Good P F0 w0 E o a w (σ.aps ws) Q := by
  replace h := ev1_gives hI h
  obtain ⟨lv, hl, h⟩ := h
  replace h := ev1_gives hI h
  obtain ⟨cv, hc, h⟩ := h
  split at h
  · rename_i kp p kq q i hi
    have hl : a.eval l = .int kp p := hl
    have hc : a.eval c = .int kq q := hc
    split at h
    · rename_i e he
      split at h
      · rename_i j hj
        split at h
        · rename_i τ hτ
          split at h
          · rename_i z0 hz0
            cases hb : Nat.beq τ.sz j.n
            · rw [hb] at h; exact absurd h Rd.gives_fail
            · rw [hb, cond_true] at h
              have hsz := Nat.eq_of_beq_eq_true hb
              obtain ⟨⟨h0, rfl, hby, hp63⟩, h⟩ := Rd.gives_need.1 h
              have hE := TT.fact hck hj
              obtain ⟨f, d, z, e1, e2, e3, e4, e5, e6, e7, e8, _⟩ := hE.ex
              have hz := zall_ok E w e8
              have hzs : z.cells.size = τ.sz := by
                have := hz.len
                rw [Array.length_toList, hE.zl] at this
                rw [this, hsz]
              have hr := run_make (P := P) w t e f z ((TT.fact hck hi).slice he) e1 e5 kp kq q q h0 (Int.le_refl _) (by rw [e4]; omega) (by omega)
              have hfs : f.size = τ.sz := by rw [e3, hsz]
              rw [hfs] at hr
              have hrun : (execOp a.eval o).run P w = .ok (.value (.slice (some ⟨w.heap.size, 0, none⟩) q.toNat q.toNat)) (w.alloc (.cells (madeCells z.cells (q.toNat * τ.sz)) e)) := by
                simp [execOp, ho, hl, hc, hr]
              have hEl := made_el hzs (RepD.dec hz hz0) q.toNat
              have hsize : (madeCells z.cells (q.toNat * τ.sz)).size = q.toNat * τ.sz := size_madeCells _ _
              have hmx : q.toNat ≤ maxLen := by unfold maxLen; omega
              cases own
              · obtain ⟨p1, p2, p3⟩ := frz_grown hI.heap (xs := List.replicate q.toNat z0) (cap := q.toNat) (cells := madeCells z.cells (q.toNat * τ.sz)) (inner := (madeCells z.cells (q.toNat * τ.sz)).toList) (et := e) (w.alloc (.cells (madeCells z.cells (q.toNat * τ.sz)) e)) (heap_new w _) (fun b hb => heap_old w _ hb) (by simp) rfl rfl rfl (by simp) (List.take_of_length_le (by rw [List.length_replicate, Array.length_toList, hsize]; exact Nat.le_refl _)) hEl
                rw [List.length_replicate] at p3
                exact good_one' hrun (hI.evo p2 p1) p2 rfl h ⟨p3, rfl⟩
              · rw [cond_true] at h
                obtain ⟨h1, h2, h⟩ := free_gives h
                obtain ⟨E', q1, q2, q3⟩ := own_grown hI.heap h1 h2 (xs := List.replicate q.toNat z0) (cap := q.toNat) (cells := madeCells z.cells (q.toNat * τ.sz)) (inner := (madeCells z.cells (q.toNat * τ.sz)).toList) (et := e) (w.alloc (.cells (madeCells z.cells (q.toNat * τ.sz)) e)) (heap_new w _) (fun b hb => heap_old w _ hb) (by simp) rfl rfl rfl (by simp) hmx hsize (List.take_of_length_le (by rw [List.length_replicate, Array.length_toList, hsize]; exact Nat.le_refl _)) hEl
                rw [List.length_replicate] at q3
                exact good_one' hrun (hI.evo q2 q1) q2 rfl h ⟨q3, _, _, _, rfl⟩
          · exact absurd h Rd.gives_fail
        · exact absurd h Rd.gives_fail
      · exact absurd h Rd.gives_fail
    · exact absurd h Rd.gives_fail
  · exact absurd h Rd.gives_fail
def semCopy (tt : TT) (nt : Nat) (dst : Option Nat) (t : Nat) (d s : Operand) : Rd := ev1 d fun dv => ev1 s fun sv => match dv, tt.at t with
  | .own k, some i => match i.elem with
    | some e => match tt.at e with
      | some j => .slot k fun z => match z with
        | .buf et τ xs => cond (Nat.beq τ.sz j.n) (rdx sv τ fun ys => .need (ys.length = xs.length) (fin nt dst [.slot k (.buf et τ ys) []] (.cv (.one (.int .i64 (ys.length : Int)))))) .fail
        | _ => .fail
      | none => .fail
    | none => .fail
  | _, _ => .fail
theorem ok_copy (hck : tt.ck P = true) {o : Oper} {t t' : Nat} {d s : Operand} {Q : Exit → Act → World → Prop} {ws : List Wr} (ho : o.op = .call { callee := .builtin .copy, args := #[d, s], argTypes := #[t, t'] }) (hI : Inv F0 w0 E σ a w) (h : (semCopy tt σ.nt o.dst t d s).gives σ ws) : Good P F0 w0 E o a w (σ.aps ws) Q := by
  replace h := ev1_gives hI h
  obtain ⟨dv, hd, h⟩ := h
  replace h := ev1_gives hI h
  obtain ⟨sv, hs, h⟩ := h
  split at h
  · rename_i k i hi
    split at h
    · rename_i e he
      split at h
      · rename_i j hj
        replace h := Rd.gives_slot.1 h
        split at h
        · rename_i et τ xs hsl
          cases hb : Nat.beq τ.sz j.n
          · rw [hb] at h; exact absurd h Rd.gives_fail
          · rw [hb, cond_true] at h
            have hsz := Nat.eq_of_beq_eq_true hb
            replace h := rdx_gives hI hs h
            obtain ⟨ys, hy, h⟩ := h
            replace h := Rd.gives_need.1 h
            obtain ⟨hlen, h⟩ := h
            have hk := hI.heap.slot k
            rw [hsl] at hk
            obtain ⟨v, inner, h1, hown, hEl⟩ := hk
            have h3 := hd.1
            rw [h1] at h3
            obtain rfl := Option.some.inj h3
            have hkl : k < σ.heap.length := hg_lt (by rw [hsl]; simp)
            obtain ⟨B, c, news, ey, k2, k3, k4, k5⟩ := hy
            have hu := (TT.fact hck hi).slice he
            have hso := run_sizeOf (TT.fact hck hj) w
            rcases hown with ⟨A, e1, e2, e3⟩ | ⟨g, cap, cur, e1, e2, e3, e4, e5, e6, e7⟩
            · have hx0 : xs = [] := List.length_eq_zero_iff.1 e2
              have hy0 : ys = [] := List.length_eq_zero_iff.1 (by rw [hlen, e2])
              subst hx0 hy0
              have hrun : (execOp a.eval o).run P w = .ok (.value (.int .i64 0)) w := by
                have ey : a.eval s = .slice B 0 c := ey
                cases A <;> cases B <;> simp [execOp, ho, resolve, invoke, builtin, Builtin.copy_, run_underlying hu w, hso, e1, ey, Builtin.lenOf, Builtin.firstCells, loadCells, loadCellsFrom, storeCells, goInt]
              have hupd := hI.heap.upd (w' := w) (E' := E) hkl (Evo.refl E w) (fun _ _ => rfl) (fun _ _ => rfl) (Below.refl _ w) (fun _ _ _ _ => rfl) hI.heap.fz hI.heap.sub (fun j _ b hl => (hI.heap.own j b hl).2.2) (s := .buf et τ []) (c := []) (by
                have := hI.heap.slot k
                rw [hsl] at this
                exact this) (fun b hb => hI.heap.own k b (by rw [hsl]; exact hb)) (fun j hj b hl hb => hj (hI.heap.inj j k b hl (by rw [hsl]; exact hb)))
              exact good_one' hrun (hI.evo (Evo.refl E w) hupd) (Evo.refl E w) rfl h rfl
            · by_cases h0 : 0 < ys.length
              · have hnl : 0 < news.length := by rw [k4]; exact Nat.mul_pos h0 τ.sz_pos
                obtain ⟨b, p, rfl, hnews⟩ := addr_of hnl k5
                have hbnd : xs.length * τ.sz ≤ cap * τ.sz := Nat.mul_le_mul_right _ e4
                have hnsz : news.length = xs.length * τ.sz := by rw [k4, hlen]
                have hload := run_loadCells_list (P := P) w ⟨b, p, none⟩ news hnews
                have hst := run_storeCells_cells (P := P) g 0 news 0 w (fun q hq => by rw [Nat.add_zero, Nat.zero_add, cell_of_row _ _ _ _ _ _ e3, Array.getElem?_eq_getElem (by omega)]; rfl) (fun q _ => frozen_of_row _ _ _ _ _ e3) (fun u hu => El.one k3 u hu)
                have hn : Nat.min ys.length xs.length * j.n = news.length := by rw [hlen, hnsz, hsz]; congr 1; exact Nat.min_self _
                have hrun : (execOp a.eval o).run P w = .ok (.value (.int .i64 (ys.length : Int))) (w.setCells g 0 news) := by
                  simp only [Nat.add_zero] at hst
                  simp [execOp, ho, resolve, invoke, builtin, Builtin.copy_, run_underlying hu w, hso, e1, ey, Builtin.lenOf, Builtin.firstCells, hn, hload, hst, goInt]
                  rw [hlen, show xs.length.min xs.length = xs.length from Nat.min_self _]
                obtain ⟨cur', r1, r2, r3⟩ := sc_row news 0 w cur e3 (by omega)
                obtain ⟨s1, s2, s3, s4⟩ := sc_same g news 0 w
                have hlive : Live E k (hg σ.heap k).1 g := by rw [hsl]; exact ⟨0, xs.length, cap, by rw [h1, e1], e2⟩
                have hev : Evo E w E (w.setCells g 0 news) := ⟨fun _ _ e => e, fun _ _ e => e, fun _ e => e, fun q hq => sc_far _ _ _ (fun e => (hI.heap.own k g hlive).2.2 (e ▸ hq))⟩
                obtain ⟨i1, i2⟩ := hI.heap.write (w' := w.setCells g 0 news) hkl (g := g) hlive (fun q hq => sc_far _ _ _ hq) s1 s2 s3 s4
                  (s := .buf et τ ys) (c := []) ⟨_, news, h1, .inr ⟨g, cap, cur', by rw [hlen]; exact e1, e2, r1, by rw [hlen]; exact e4, e5, by rw [r2, e6], by rw [r3, ← k4]; simp⟩, k3.imp (fun _ _ => RepD.evo hev)⟩ (fun q hq => by rw [hsl]; exact hq)
                exact good_one' hrun (hI.evo i2 i1) i2 rfl h rfl
              · have hy0 : ys = [] := List.length_eq_zero_iff.1 (by omega)
                have hx0 : xs = [] := List.length_eq_zero_iff.1 (by rw [← hlen, hy0]; rfl)
                subst hx0 hy0
                have hrun : (execOp a.eval o).run P w = .ok (.value (.int .i64 0)) w := by
                  have ey : a.eval s = .slice B 0 c := ey
                  have e1 : a.eval d = .slice (some ⟨g, 0, none⟩) 0 cap := e1
                  cases B <;> simp [execOp, ho, resolve, invoke, builtin, Builtin.copy_, run_underlying hu w, hso, e1, ey, Builtin.lenOf, Builtin.firstCells, loadCells, loadCellsFrom, storeCells, goInt]
                have hupd := hI.heap.upd (w' := w) (E' := E) hkl (Evo.refl E w) (fun _ _ => rfl) (fun _ _ => rfl) (Below.refl _ w) (fun _ _ _ _ => rfl) hI.heap.fz hI.heap.sub (fun j _ b hl => (hI.heap.own j b hl).2.2) (s := .buf et τ []) (c := []) (by
                  have := hI.heap.slot k
                  rw [hsl] at this
                  exact this) (fun b hb => hI.heap.own k b (by rw [hsl]; exact hb)) (fun j hj b hl hb => hj (hI.heap.inj j k b hl (by rw [hsl]; exact hb)))
                exact good_one' hrun (hI.evo (Evo.refl E w) hupd) (Evo.refl E w) rfl h rfl
        · exact absurd h Rd.gives_fail
      · exact absurd h Rd.gives_fail
    · exact absurd h Rd.gives_fail
  · exact absurd h Rd.gives_fail
end
end Go.Proofs.YtkhjemahenkdiaaGreatDoor.V
