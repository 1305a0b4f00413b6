/- Functions of the program, as Lean functions, and that the code answers so. Printed by vgen.py. -/
import Derived.Test.YtkhjemahenkdiaaDoorVF1
namespace Go.Proofs.YtkhjemahenkdiaaDoor.V
open Go Go.RowKit
set_option linter.unusedVariables false
set_option linter.unusedSimpArgs false
set_option maxRecDepth 100000
set_option maxHeartbeats 4000000
namespace f_tags_Next
/-- the array of 4096 bools: which tags are in a list. -/
def takenL (l : List Int) : List Bool := (List.range 4096).map fun (j : Nat) => decide ((j : Int) ∈ l)
def takenA (l : List Int) : Array Value := ((takenL l).map Value.bool).toArray
theorem takenA_size (l : List Int) : (takenA l).size = 4096 := by simp [takenA, takenL]
theorem takenA_get (l : List Int) (j : Nat) (h : j < 4096) : (takenA l)[j]? = some (.bool (decide ((j : Int) ∈ l))) := by
  simp [takenA, takenL, h]
theorem takenA_nil : takenA [] = Array.replicate 4096 (.bool false) := by
  apply Array.ext_getElem?
  intro i
  by_cases h : i < 4096
  · rw [takenA_get _ _ h]; simp [h]
  · rw [Array.getElem?_eq_none (by rw [takenA_size]; omega), Array.getElem?_eq_none (by simp; omega)]
theorem takenA_one (l : List Int) : (takenA l).all (·.oneCell') = true := by
  simp [takenA, Value.oneCell']
theorem takenA_snoc (l : List Int) (x : Int) (h0 : 0 ≤ x) (h1 : x ≤ 4095) : (takenA l).setIfInBounds x.toNat (.bool true) = takenA (l ++ [x]) := by
  apply Array.ext_getElem?
  intro i
  by_cases h : i < 4096
  · rw [Array.getElem?_setIfInBounds, takenA_get _ _ h, takenA_get _ _ h]
    by_cases e : x.toNat = i
    · subst e; simp [takenA_size]; omega
    · rw [if_neg e]
      have : ¬ (i : Int) = x := by omega
      simp [this]
  · rw [Array.getElem?_eq_none (by simp [takenA_size]; omega), Array.getElem?_eq_none (by simp [takenA_size]; omega)]
theorem takenA_skip (l : List Int) (x : Int) (h : ¬ (0 ≤ x ∧ x ≤ 4095)) : takenA (l ++ [x]) = takenA l := by
  apply Array.ext_getElem?
  intro i
  by_cases hi : i < 4096
  · rw [takenA_get _ _ hi, takenA_get _ _ hi]
    have : ¬ (i : Int) = x := by omega
    simp [this]
  · rw [Array.getElem?_eq_none (by simp [takenA_size]; omega), Array.getElem?_eq_none (by simp [takenA_size]; omega)]
theorem zeroTags : ∀ w, (zeroValue 150).run Go.Proofs.Tryd.prog w = .ok (.agg (takenA [])) w := by
  rw [takenA_nil]
  exact (zero_of_info (n := 4096) (by kernel_rfl : (Go.Proofs.Tryd.prog.info? 150).map (fun i => (i.zero, i.size)) = some (some (.agg (Array.replicate 4096 (.bool false))), 4096))).1
theorem sizeTags : (Go.Proofs.Tryd.prog.info? 150).map (·.size) = some 4096 := by kernel_rfl
section
variable {P : Program}
theorem wpList_alloc_row {ops : Array Oper} {rest : List Oper} {o : Oper} {a : Act} {w : World} {Q : Exit → Act → World → Prop} (hgd : o.guard = none) (t : TypeId) (ho : o.op = .alloc t) (Z : Array Value)
    (hz : ∀ w, (zeroValue t).run P w = .ok (.agg Z) w)
    (h : wpList P ops Q rest (a.put o.dst (.pointer (some ⟨w.heap.size, 0, none⟩))) (w.alloc (.cells Z t))) : wpList P ops Q (o :: rest) a w :=
  wpList_plain hgd fun _ hK => by
    unfold Oper.wp execOp
    simp only [ho, Instr.alloc, newVar, newRow, Value.cells, Sem.run_bind, hz, Sem.run_pure, Result.andThen_ok]
    exact hK _ _ h
theorem gate_alloc {ops : Array Oper} {rest : List Oper} {o : Oper} {a : Act} {w : World} {Q : Exit → Act → World → Prop} {t : TypeId} (_ : o.op = .alloc t) (h : wpList P ops Q (o :: rest) a w) : wpList P ops Q (o :: rest) a w := h
theorem gate_storeX {ops : Array Oper} {rest : List Oper} {o : Oper} {a : Act} {w : World} {Q : Exit → Act → World → Prop} {t : TypeId} {x y : Operand} (_ : o.op = .store t x y) (h : wpList P ops Q (o :: rest) a w) : wpList P ops Q (o :: rest) a w := h
theorem setRow_self {w : World} {g : Nat} {cs : Array Value} {t : TypeId} {fr : Nat × Nat} (h : w.heap[g]? = some (.cells cs t fr)) : w.setRow g cs = w := by
  have : (w.setRow g cs).heap = w.heap := by
    apply Array.ext_getElem?
    intro i
    by_cases e : i = g
    · subst e; rw [setRow_heap w i cs cs t fr h, h]
    · rw [setRow_other w g i cs e]
  cases w
  simp only [World.setRow] at this ⊢
  simp [this]
end
structure Aside0 (p : Prop) : Prop where mk :: (out : p)
theorem below_alloc {w W : World} (h : Below w.heap.size w W) (o : Obj) : Below w.heap.size w (W.alloc o) := h.alloc h.size o
theorem below_then {B : Nat} {w w1 w2 : World} (h : Below B w w1) (hB : B ≤ w1.heap.size) (k : Below w1.heap.size w1 w2) : Below B w w2 :=
  h.trans ⟨k.os, k.tape, k.output, k.size, fun i hi => k.block i (Nat.lt_of_lt_of_le hi hB)⟩
theorem calls_of_args {P : Program} {f : FuncId} {args args' : Array Value} {w : World} {Q : Ending → World → Prop} (h : args = args') (hc : Calls P f args' w Q) : Calls P f args w Q := h ▸ hc
/-- The cells of a list of numbers. -/
def RdI (w : World) (A : Option Addr) (l : List Int) : Prop := l.length ≤ maxLen ∧ ∀ i, i < l.length → ∃ ad, A = some ad ∧ w.cell? (ad.add i) = some (.int .i64 (l.getD i 0))
def rd (l : List Int) (i : Int) : Int := l.getD i.toNat 0
theorem RdI.below {w w1 : World} {A : Option Addr} {l : List Int} (h : RdI w A l) (hb : Below w.heap.size w w1) : RdI w1 A l := ⟨h.1, fun i hi => by
  obtain ⟨ad, e, hc⟩ := h.2 i hi
  exact ⟨ad, e, (hb.cell (World.block_lt_of_cell? w _ hc)).trans hc⟩⟩
theorem RdI.at {w : World} {A : Option Addr} {l : List Int} (h : RdI w A l) (i : Int) (h0 : 0 ≤ i) (h1 : i < (l.length : Int)) : ∃ ad, A = some ad ∧ w.cell? (ad.add i.toNat) = some (.int .i64 (rd l i)) := h.2 i.toNat (by omega)
section
variable {P : Program} {ops : Array Oper} {rest : List Oper} {o : Oper} {a : Act} {Q : Exit → Act → World → Prop} {W : World}
theorem gate_builtin {b : Builtin} {xs : Array Operand} {ts : Array TypeId} (_ho : o.op = .call { callee := .builtin b, args := xs, argTypes := ts }) (h : wpList P ops Q (o :: rest) a W) : wpList P ops Q (o :: rest) a W := h
theorem own_alloc {w : World} {et sz : Nat} {v : Value} {n : Nat} {inner : List Value} (h : Own w et sz v n inner) (o : Obj) : Own (w.alloc o) et sz v n inner := by
  rcases h with ⟨A, h⟩ | ⟨g, cap, cur, e, h0, h1, h2⟩
  · exact .inl ⟨A, h⟩
  · exact .inr ⟨g, cap, cur, e, h0, ((below_alloc (Below.refl _ _) o).block g (Array.getElem?_eq_some_iff.1 h1).1).trans h1, h2⟩
theorem wp_append1 {w0 : World} {i j : TI} (hgd : o.guard = none) (s x : Operand) (t e : Nat) (hT : TF P t i) (he : i.elem = some e) (hE : TF P e j) (hn : j.n = 1) (hby : j.bytes = 8) (ho : o.op = .call { callee := .builtin .append, args := #[s, x], argTypes := #[t, t] })
    (v : Value) (l : List Int) (p : Int) (hs : a.eval s = v) (hx : a.eval x = .slice (some ⟨W.heap.size, 0, none⟩) 1 1) (hO : Own W e 1 v l.length (l.map (Value.int .i64))) (hlim : (l.length + 1) * 8 ≤ 140737488355328)
    (hB : Below w0.heap.size w0 W) (hf : ∀ b o n c, v = .slice (some ⟨b, o, none⟩) n c → 0 < c → w0.heap.size ≤ b)
    (h : ∀ v1 w1, Own w1 e 1 v1 (l.length + 1) ((l ++ [p]).map (Value.int .i64)) → Below w0.heap.size w0 w1 → wpList P ops Q rest (a.put o.dst v1) w1) : wpList P ops Q (o :: rest) a (W.alloc (.cells #[.int .i64 p] e)) :=
  wpList_plain hgd fun K hK => by
    have hO2 := own_alloc hO (.cells #[.int .i64 p] e)
    have hB2 := hB.alloc hB.size (.cells #[.int .i64 p] e)
    generalize hW : W.alloc (.cells #[.int .i64 p] e) = W2 at *
    rw [← hn] at hO2
    obtain ⟨v', w', hr, k1, k2, k3, k4, k5, k6, k7⟩ := app_raw (news := [.int .i64 p]) (ad := ⟨W.heap.size, 0, none⟩) hT he hE (cx := 1) hO2 (by rw [hn]; simp) (by omega) (by rw [hn]; rfl) (fun q u hq => by
      cases q with
      | zero =>
        obtain rfl : Value.int .i64 p = u := by simpa using hq
        rw [Addr.add_plain, ← hW, cell_of_row _ _ _ _ _ _ (heap_alloc_new _ _)]
        rfl
      | succ q => simp at hq) (by simp [Value.oneCell']) (by rw [hby]; exact hlim) o.type
    have run : (execOp a.eval o).run P W2 = .ok (.value v') w' := by
      simp [execOp, ho, resolve, invoke, builtin, hs, hx, hr]
    unfold Oper.wp
    rw [run]
    refine hK _ _ (h v' w' (by rw [hn] at k1; rw [List.map_append]; exact k1) (hB2.trans ⟨k5, k6, k7, k3, fun b hb => k2 b (Nat.lt_of_lt_of_le hb hB2.size) fun o m c e => ?_⟩))
    rcases Nat.eq_zero_or_pos c with h0 | h0
    · exact h0
    · have := hf b o m c e h0; omega
end
theorem tfS : ∃ i, TF P 23 i ∧ i.elem = some 3 := ⟨_, TT.fact tt_ck rfl, rfl⟩
theorem tfE : ∃ j, TF P 3 j ∧ j.n = 1 ∧ j.bytes = 8 := ⟨_, TT.fact tt_ck rfl, rfl, rfl⟩
theorem el_ints {F : Nat → Prop} {w : World} : ∀ {xs : List Int} {inner : List Value}, El (RepD F w (.int .i64)) xs inner → inner = xs.map (Value.int .i64)
  | [], _, h => h
  | x :: xs, _, ⟨c, r, e, h, k⟩ => by rw [e, show c = [Value.int .i64 x] from h, el_ints k]; rfl
theorem rdI_own {w : World} {et : Nat} {v : Value} {l : List Int} (h : Own w et 1 v l.length (l.map (Value.int .i64))) : ∃ A c, v = .slice A l.length c ∧ l.length ≤ c ∧ RdI w A l := by
  rcases h with ⟨A, rfl, h0, _⟩ | ⟨g, cap, cur, rfl, h0, h1, h2, h3, h4, h5⟩
  · refine ⟨A, 0, by rw [h0], by omega, by rw [h0]; exact Nat.zero_le _, fun i hi => by omega⟩
  · refine ⟨_, cap, rfl, h2, Nat.le_trans h2 h3, fun i hi => ⟨_, rfl, ?_⟩⟩
    have hc : cur[i]? = some (.int .i64 (l.getD i 0)) := by
      have e : (cur.toList.take (l.length * 1))[i]? = some (.int .i64 (l.getD i 0)) := by
        rw [h5, List.getElem?_map, List.getElem?_eq_getElem hi]
        simp [List.getD, List.getElem?_eq_getElem hi]
      rw [List.getElem?_take, if_pos (by omega), Array.getElem?_toList] at e
      exact e
    rw [Addr.add_plain, Nat.zero_add, cell_of_row _ _ _ _ _ _ h1]
    exact hc
set_option maxHeartbeats 8000000 in
set_option maxRecDepth 100000 in
theorem taken_calls (A0 : Option Addr) (c0 : Nat) (l0 : List Int) (w : World) (hr0 : RdI w A0 l0) (hc0 : l0.length ≤ c0) :
    Calls Go.Proofs.Tryd.prog 95 #[.slice A0 l0.length c0] w fun e w' => e = .returned (.agg (takenA l0)) ∧ Below w.heap.size w w' := by
  have HR := Aside0.mk hr0
  have HC := Aside0.mk hc0
  have hmx : l0.length ≤ 9223372036854775807 := by have := hr0.1; unfold maxLen at this; omega
  clear hr0 hc0
  go_enter Go.Proofs.Tryd.func95, Go.Proofs.Tryd.ntmps95
  go_wp2_with (refine wpList_alloc_row rfl 150 rfl (takenA []) zeroTags ?_)
  go_loopw [7] (fun i wr => ∃ k : Nat, k ≤ l0.length ∧ i = .int .i64 k ∧ Aside0 (wr.heap[w.heap.size]? = some (.cells (takenA (l0.take k)) 150 (0, 0))) ∧ Aside0 (Below w.heap.size w wr)) (fun i _ => l0.length - (intOf i).toNat)
  case atStart => exact ⟨0, Nat.zero_le _, rfl, ⟨by rw [List.take_zero]; exact heap_alloc_new _ _⟩, ⟨below_alloc (Below.refl _ _) _⟩⟩
  case round =>
    obtain ⟨k, hk, rfl, HH, HB⟩ := hrel
    by_cases hlt : k < l0.length
    · obtain ⟨ad, e, hx⟩ := RdI.at (HR.out.below HB.out) (k : Int) (by omega) (by omega)
      subst e
      rw [Int.toNat_natCast] at hx
      have hsn : l0.take (k + 1) = l0.take k ++ [rd l0 k] := by
        rw [List.take_succ_eq_append_getElem hlt]
        simp [rd, hlt, List.getD]
      have HS := Aside0.mk hsn
      clear hsn
      generalize rd l0 (k : Int) = x at *
      by_cases hin : 0 ≤ x ∧ x ≤ 4095
      · obtain ⟨h0, h1⟩ := hin
        have hc : wr.cell? ⟨w.heap.size, x.toNat, none⟩ = some (.bool (decide (x ∈ l0.take k))) := by
          rw [cell_of_row _ _ _ _ _ _ HH.out, takenA_get _ _ (by omega)]
          simp [show ((x.toNat : Nat) : Int) = x by omega]
        have hf : wr.frozen? ⟨w.heap.size, x.toNat, none⟩ = false := frozen_of_row _ _ _ _ _ HH.out
        go_wp2
        go_roundw
        case rel => exact ⟨k + 1, by omega, by go_num, ⟨by rw [heap_setCell_same _ _ _ _ _ _ HH.out, takenA_snoc _ _ h0 h1, ← HS.out]⟩, ⟨HB.out.setCell (p := ⟨w.heap.size, x.toNat, none⟩) (Nat.le_refl _) _⟩⟩
        case measure => simp [intOf]; omega
      · go_wp2
        all_goals
          go_roundw
          case rel => exact ⟨k + 1, by omega, by go_num, ⟨by rw [HS.out, takenA_skip _ _ hin]; exact HH.out⟩, HB⟩
          case measure => simp [intOf]; omega
    · obtain rfl : k = l0.length := by omega
      rw [List.take_length] at HH
      go_wp2_with (first | refine wpList_load_row rfl 150 _ rfl w.heap.size rfl 150 (takenA l0) (0, 0) _ HH.out Go.Proofs.Tryd.underlying150 rfl (by rw [takenA_size]; exact sizeTags) ?_ | refine wpList_store_row rfl 150 _ _ rfl w.heap.size (takenA l0) rfl rfl 150 (takenA l0) HH.out (by rw [takenA_size]; exact sizeTags) rfl (takenA_one _) ?_)
      rw [setRow_self HH.out]
      go_wp2_with fail
      refine bodyPost_ret (results_cell_row rfl _ _ w.heap.size 150 (takenA l0) (0, 0) _ rfl HH.out Go.Proofs.Tryd.underlying150 rfl (by rw [takenA_size]; exact sizeTags)) rfl ⟨rfl, HB.out⟩

def candN (fr : Int) (i : Nat) : Int := (fr + i) % 4095 + 1
def frOf (tag : Int) : Int := if tag < 0 ∨ tag > 4095 then 0 else tag
def nextSpec (tag : Int) (used : List Int) : Int := (((List.range 4095).map (candN (frOf tag))).find? (fun n => decide (n ∉ used ++ [tag]))).getD 0
theorem nextSpec_found {tag : Int} {used : List Int} {k : Nat} (hk : k < 4095) (h : ∀ j, j < k → candN (frOf tag) j ∈ used ++ [tag]) (hn : candN (frOf tag) k ∉ used ++ [tag]) : nextSpec tag used = candN (frOf tag) k := by
  unfold nextSpec
  have : ((List.range 4095).map (candN (frOf tag))).find? (fun n => decide (n ∉ used ++ [tag])) = some (candN (frOf tag) k) := by
    rw [List.find?_map]
    rw [Option.map_eq_some_iff]
    refine ⟨k, ?_, rfl⟩
    rw [List.find?_range_eq_some]
    refine ⟨by simpa using hn, by simpa using hk, fun j hj => by simpa using h j hj⟩
  rw [this]; rfl
theorem nextSpec_none {tag : Int} {used : List Int} (h : ∀ j, j < 4095 → candN (frOf tag) j ∈ used ++ [tag]) : nextSpec tag used = 0 := by
  unfold nextSpec
  have : ((List.range 4095).map (candN (frOf tag))).find? (fun n => decide (n ∉ used ++ [tag])) = none := by
    rw [List.find?_eq_none]
    intro x hx
    obtain ⟨j, hj, rfl⟩ := List.mem_map.1 hx
    have := h j (by simpa using hj)
    rw [decide_eq_true_eq]
    exact fun hc => hc this
  rw [this]; rfl
theorem candN_range {fr : Int} (h0 : 0 ≤ fr) (i : Nat) : 1 ≤ candN fr i ∧ candN fr i ≤ 4095 := by unfold candN; omega
set_option maxHeartbeats 8000000 in
set_option maxRecDepth 100000 in
theorem next_calls (a0 : Int) (A1 : Option Addr) (c1 : Nat) (l1 : List Int) (F : Nat → Prop) (w : World) (hG : Globs F w) (hr1 : RepD F w (.slice (.int .i64)) l1 [.slice A1 l1.length c1]) (hm : l1.length < 17592186044415) :
    Calls Go.Proofs.Tryd.prog 74 #[.int .i64 a0, .slice A1 l1.length c1] w fun e w' => e = .returned (.int .i64 (nextSpec a0 l1)) ∧ Below w.heap.size w w' := by
  have HR := Aside0.mk hr1
  have HG := Aside0.mk hG
  have HM := Aside0.mk hm
  clear hr1 hm hG
  go_enter Go.Proofs.Tryd.func74, Go.Proofs.Tryd.ntmps74
  go_wp2_with fail
  refine (f_slices_Clone_intO.fits.calls (l1, ()) (l1, ()) ⟨0, by unfold f_slices_Clone_intO.f; rw [if_pos (show (0 + l1.length) * 8 ≤ 140737488355328 by have := HM.out; omega), if_pos (.inl rfl)]; rfl⟩ F w #[.slice A1 l1.length c1] HG.out (show All2 (RepC (E0 F) w) [Value.slice A1 l1.length c1] [cvOf false [AV.sl (.int .i64) l1 .any]] from ⟨⟨HR.out, trivial⟩, trivial⟩)).mono ?_
  rintro e w1 ⟨v, rfl, hb1, F', _, _, _, τ, xs, inner, v1, l, hown, hv, ho1, hel, hfr⟩
  obtain ⟨rfl, rfl⟩ : τ = .int .i64 ∧ l = [] := by cases hown; exact ⟨rfl, rfl⟩
  obtain rfl : l1 = xs := by cases hown; rfl
  obtain rfl : v = v1 := hv
  have hin := el_ints hel
  subst hin
  have HO1 := Aside0.mk ho1
  have HB1 := Aside0.mk hb1
  have HF1 := Aside0.mk (show ∀ b o n c, v = .slice (some ⟨b, o, none⟩) n c → 0 < c → w.heap.size ≤ b from fun b o n c e h => (hfr b o n c e h).1)
  clear ho1 hb1 hel hfr hown HG HR
  obtain ⟨iS, hTS, heS⟩ := tfS
  obtain ⟨jE, hTE, hnE, hbE⟩ := tfE
  have HS := Aside0.mk hTS
  have HE1 := Aside0.mk heS
  have HE2 := Aside0.mk hTE
  have HE3 := Aside0.mk hnE
  have HE4 := Aside0.mk hbE
  clear hTS heS hTE hnE hbE
  go_wp2_with ((with_reducible refine gate_builtin (b := .append) (xs := #[.tmp 10, .tmp 12]) rfl ?_); at_builtin; refine wp_append1 (w0 := w) rfl (.tmp 10) (.tmp 12) 23 3 HS.out HE1.out HE2.out HE3.out HE4.out rfl v l1 a0 rfl rfl HO1.out (by have := HM.out; omega) HB1.out HF1.out ?_; intro v2 w2 ho2 hb2; obtain ⟨A2, c2, rfl, hl2, hr2⟩ := rdI_own (l := l1 ++ [a0]) (by rw [List.length_append]; exact ho2); have HR2 := Aside0.mk hr2; have HL2 := Aside0.mk hl2; have HB2 := Aside0.mk hb2; clear ho2 hb2 hl2 hr2)
  refine calls_of_args (args' := #[.slice A2 (l1 ++ [a0]).length c2]) (by simp) ?_
  refine (taken_calls A2 c2 (l1 ++ [a0]) _ HR2.out HL2.out).mono ?_
  rintro e w3 ⟨rfl, hb3⟩
  have HB3 := Aside0.mk (below_then HB2.out HB2.out.size hb3)
  clear hb3
  go_wp2_with (first
    | ((with_reducible refine gate_alloc (t := 150) rfl ?_); refine wpList_alloc_row rfl 150 rfl (takenA []) zeroTags ?_)
    | ((with_reducible refine gate_storeX (t := 150) (x := .tmp 5) (y := .tmp 14) rfl ?_); refine wpList_store_row rfl 150 (.tmp 5) (.tmp 14) rfl w3.heap.size (takenA (l1 ++ [a0])) rfl rfl 150 (takenA []) (heap_alloc_new _ _) (by rw [takenA_size]; exact sizeTags) (by rw [takenA_size, takenA_size]) (takenA_one _) ?_; rw [World.setRow_alloc_new]; obtain ⟨w4, H4⟩ : ∃ w4, w3.alloc (.cells (takenA (l1 ++ [a0])) 150) = w4 := ⟨_, rfl⟩; rw [H4]; have HH := Aside0.mk (show w4.heap[w3.heap.size]? = some (.cells (takenA (l1 ++ [a0])) 150 (0, 0)) from H4 ▸ heap_alloc_new _ _); have HB := Aside0.mk (show Below w.heap.size w w4 from H4 ▸ below_alloc HB3.out _); clear H4))
  · have HF := Aside0.mk (show frOf a0 = 0 from by unfold frOf; first | rw [if_pos (by omega)] | rw [if_neg (by omega)])
    clear HM HR2 HL2 HB2 HB3 HO1 HB1 HF1 HS HE1 HE2 HE3 HE4
    go_loop [22] (fun i => ∃ k : Nat, k ≤ 4095 ∧ i = .int .i64 k ∧ Aside0 (∀ j, j < k → candN (frOf a0) j ∈ l1 ++ [a0])) (fun i => 4095 - (intOf i).toNat)
    case atStart => exact ⟨0, by omega, rfl, ⟨fun j hj => by omega⟩⟩
    case round =>
      obtain ⟨k, hk, rfl, HJ⟩ := hrel
      by_cases hlt : k < 4095
      · have HE := Aside0.mk (show candN (frOf a0) k = (k : Int) % 4095 + 1 from by rw [HF.out]; unfold candN; simp)
        have hr0 : 0 ≤ (k : Int) % 4095 + 1 := by omega
        have hr1 : (k : Int) % 4095 + 1 ≤ 4095 := by omega
        by_cases hin : candN (frOf a0) k ∈ l1 ++ [a0]
        · have hcell : w4.cell? ⟨w3.heap.size, k % 4095 + 1, none⟩ = some (.bool true) := by
            rw [cell_of_row _ _ _ _ _ _ HH.out, takenA_get _ _ (by omega), show ((((k % 4095 + 1) : Nat)) : Int) = candN (frOf a0) k by rw [HE.out]; omega, decide_eq_true hin]
          have HJ2 := Aside0.mk (show ∀ j, j < k + 1 → candN (frOf a0) j ∈ l1 ++ [a0] from fun j hj => by
            by_cases e : j = k
            · rw [e]; exact hin
            · exact HJ.out j (by omega))
          clear hin
          go_wp2
          go_round
          case rel => exact ⟨k + 1, by omega, by go_num, HJ2⟩
          case measure => simp [intOf]; omega
        · have hcell : w4.cell? ⟨w3.heap.size, k % 4095 + 1, none⟩ = some (.bool false) := by
            rw [cell_of_row _ _ _ _ _ _ HH.out, takenA_get _ _ (by omega), show ((((k % 4095 + 1) : Nat)) : Int) = candN (frOf a0) k by rw [HE.out]; omega, decide_eq_false hin]
          have HN := Aside0.mk (nextSpec_found hlt HJ.out hin)
          clear hin
          go_wp2
          go_ret
          exact ⟨by rw [HN.out, HE.out]; rfl, HB.out⟩
      · obtain rfl : k = 4095 := by omega
        have HN := Aside0.mk (nextSpec_none HJ.out)
        go_wp2
        go_ret
        exact ⟨by rw [HN.out]; rfl, HB.out⟩
  · have HF := Aside0.mk (show frOf a0 = a0 from by unfold frOf; first | rw [if_pos (by omega)] | rw [if_neg (by omega)])
    clear HM HR2 HL2 HB2 HB3 HO1 HB1 HF1 HS HE1 HE2 HE3 HE4
    go_loop [22] (fun i => ∃ k : Nat, k ≤ 4095 ∧ i = .int .i64 k ∧ Aside0 (∀ j, j < k → candN (frOf a0) j ∈ l1 ++ [a0])) (fun i => 4095 - (intOf i).toNat)
    case atStart => exact ⟨0, by omega, rfl, ⟨fun j hj => by omega⟩⟩
    case round =>
      obtain ⟨k, hk, rfl, HJ⟩ := hrel
      by_cases hlt : k < 4095
      · have HE := Aside0.mk (show candN (frOf a0) k = (a0 + (k : Int)) % 4095 + 1 from by rw [HF.out]; unfold candN; simp)
        have hr0 : 0 ≤ (a0 + (k : Int)) % 4095 + 1 := by omega
        have hr1 : (a0 + (k : Int)) % 4095 + 1 ≤ 4095 := by omega
        by_cases hin : candN (frOf a0) k ∈ l1 ++ [a0]
        · have hcell : w4.cell? ⟨w3.heap.size, ((a0 + (k : Int)) % 4095 + 1).toNat, none⟩ = some (.bool true) := by
            rw [cell_of_row _ _ _ _ _ _ HH.out, takenA_get _ _ (by omega), show ((((((a0 + (k : Int)) % 4095 + 1).toNat) : Nat)) : Int) = candN (frOf a0) k by rw [HE.out]; omega, decide_eq_true hin]
          have HJ2 := Aside0.mk (show ∀ j, j < k + 1 → candN (frOf a0) j ∈ l1 ++ [a0] from fun j hj => by
            by_cases e : j = k
            · rw [e]; exact hin
            · exact HJ.out j (by omega))
          clear hin
          go_wp2
          go_round
          case rel => exact ⟨k + 1, by omega, by go_num, HJ2⟩
          case measure => simp [intOf]; omega
        · have hcell : w4.cell? ⟨w3.heap.size, ((a0 + (k : Int)) % 4095 + 1).toNat, none⟩ = some (.bool false) := by
            rw [cell_of_row _ _ _ _ _ _ HH.out, takenA_get _ _ (by omega), show ((((((a0 + (k : Int)) % 4095 + 1).toNat) : Nat)) : Int) = candN (frOf a0) k by rw [HE.out]; omega, decide_eq_false hin]
          have HN := Aside0.mk (nextSpec_found hlt HJ.out hin)
          clear hin
          go_wp2
          go_ret
          exact ⟨by rw [HN.out, HE.out]; rfl, HB.out⟩
      · obtain rfl : k = 4095 := by omega
        have HN := Aside0.mk (nextSpec_none HJ.out)
        go_wp2
        go_ret
        exact ⟨by rw [HN.out]; rfl, HB.out⟩
  · have HF := Aside0.mk (show frOf a0 = 0 from by unfold frOf; first | rw [if_pos (by omega)] | rw [if_neg (by omega)])
    clear HM HR2 HL2 HB2 HB3 HO1 HB1 HF1 HS HE1 HE2 HE3 HE4
    go_loop [22] (fun i => ∃ k : Nat, k ≤ 4095 ∧ i = .int .i64 k ∧ Aside0 (∀ j, j < k → candN (frOf a0) j ∈ l1 ++ [a0])) (fun i => 4095 - (intOf i).toNat)
    case atStart => exact ⟨0, by omega, rfl, ⟨fun j hj => by omega⟩⟩
    case round =>
      obtain ⟨k, hk, rfl, HJ⟩ := hrel
      by_cases hlt : k < 4095
      · have HE := Aside0.mk (show candN (frOf a0) k = (k : Int) % 4095 + 1 from by rw [HF.out]; unfold candN; simp)
        have hr0 : 0 ≤ (k : Int) % 4095 + 1 := by omega
        have hr1 : (k : Int) % 4095 + 1 ≤ 4095 := by omega
        by_cases hin : candN (frOf a0) k ∈ l1 ++ [a0]
        · have hcell : w4.cell? ⟨w3.heap.size, k % 4095 + 1, none⟩ = some (.bool true) := by
            rw [cell_of_row _ _ _ _ _ _ HH.out, takenA_get _ _ (by omega), show ((((k % 4095 + 1) : Nat)) : Int) = candN (frOf a0) k by rw [HE.out]; omega, decide_eq_true hin]
          have HJ2 := Aside0.mk (show ∀ j, j < k + 1 → candN (frOf a0) j ∈ l1 ++ [a0] from fun j hj => by
            by_cases e : j = k
            · rw [e]; exact hin
            · exact HJ.out j (by omega))
          clear hin
          go_wp2
          go_round
          case rel => exact ⟨k + 1, by omega, by go_num, HJ2⟩
          case measure => simp [intOf]; omega
        · have hcell : w4.cell? ⟨w3.heap.size, k % 4095 + 1, none⟩ = some (.bool false) := by
            rw [cell_of_row _ _ _ _ _ _ HH.out, takenA_get _ _ (by omega), show ((((k % 4095 + 1) : Nat)) : Int) = candN (frOf a0) k by rw [HE.out]; omega, decide_eq_false hin]
          have HN := Aside0.mk (nextSpec_found hlt HJ.out hin)
          clear hin
          go_wp2
          go_ret
          exact ⟨by rw [HN.out, HE.out]; rfl, HB.out⟩
      · obtain rfl : k = 4095 := by omega
        have HN := Aside0.mk (nextSpec_none HJ.out)
        go_wp2
        go_ret
        exact ⟨by rw [HN.out]; rfl, HB.out⟩

theorem enter_of {P : Program} {f : Nat} {fn : Func} {c : Code} (hf : P.funcs[f]? = some fn) (hb : fn.body = some c) (hn : fn.name ≠ "runtime.NumGoroutine") (args : Array Value) (w : World) : (callFunc f args).run P w = .ok (.enter f args) w := by
  simp [callFunc, hf, hb, hn]

abbrev ps : Sg := [(false, .int .i64), (false, .slice (.int .i64))]
abbrev rs : Sg := [(false, .int .i64)]
abbrev R := Tup rs
noncomputable def f (k : Nat) (a1 : Int) (a2 : List Int) : Option R := if a2.length < 17592186044415 then some (nextSpec a1 a2, ()) else none
noncomputable def S : Spec := ⟨ps, rs, .any, none, fun x r => ∃ k, f k x.1 x.2.1 = some r⟩
theorem rl {k a1 a2 r} (e : f k a1 a2 = some r) : S.rel (a1, a2, ()) r := ⟨k, e⟩
theorem fits : Fits P 74 S := by
  refine ⟨fun args w => ?_, fun x r hrel F w args hF hargs => ?_⟩
  · exact enter_of (c := (Go.Proofs.Tryd.f74.body).getD .skip) Go.Proofs.Tryd.func74 (by kernel_rfl) (by decide) args w
  · obtain ⟨k, hk⟩ := hrel
    obtain ⟨a1, a2, u⟩ := x
    dsimp only at hk
    unfold f at hk
    split at hk
    · rename_i hm
      obtain rfl := Option.some.inj hk
      have ha : ∃ v1 v2, args = #[v1, v2] ∧ v1 = .int .i64 a1 ∧ RepD F w (.slice (.int .i64)) a2 [v2] := by
        have hl := hargs.len
        match hz : args.toList, hargs with
        | [v1, v2], h => exact ⟨v1, v2, by rw [← Array.toArray_toList (xs := args), hz], h.1, h.2.1.1⟩
      obtain ⟨v1, v2, rfl, rfl, hr⟩ := ha
      obtain ⟨A, c, inner, e, h2, h3, h4⟩ := hr
      simp only [List.cons.injEq, and_true] at e
      subst e
      refine (next_calls a1 A c a2 F w hF ⟨A, c, inner, rfl, h2, h3, h4⟩ hm).mono ?_
      rintro e w' ⟨rfl, hb⟩
      exact ⟨_, rfl, hb, F, fun _ h => h, fun _ h => .inl h, fun b h => Nat.lt_of_lt_of_le (hF.1 b h) hb.size, rfl⟩
    · cases hk
end f_tags_Next

/-! ### function 25, wayfinder/control.own, where it is called -/

namespace i_control_own_b6am
noncomputable def c0 : Code := (Go.Proofs.Tryd.f25.body).getD .skip
noncomputable def V : Env := { tt := tt, Γ := slk [(60, f_slices_Clone_ConfO.S), (61, f_slices_Clone_Conf_RuleO.S), (62, f_slices_Clone_Rule.S), (63, f_slices_Clone_PeerO.S), (64, f_slices_Clone_Msg.S), (65, f_slices_Clone_intO.S), (66, f_slices_Clone_GivenO.S)] }
theorem V_ok : EnvOk P V := { ck := tt_ck, fits := slk_cons f_slices_Clone_ConfO.fits (slk_cons f_slices_Clone_Conf_RuleO.fits (slk_cons f_slices_Clone_Rule.fits (slk_cons f_slices_Clone_PeerO.fits (slk_cons f_slices_Clone_Msg.fits (slk_cons f_slices_Clone_intO.fits (slk_cons f_slices_Clone_GivenO.fits (slk_nil))))))), mixed := mixed }
abbrev R := (Int) × (Int) × (Int) × (Int) × (Int) × (Int) × (Int) × (List (List (List T1383.T))) × (List Int) × (List T23b6.T) × (List T713d.T) × (List Int) × (List Int) × Unit
noncomputable def s0 (x1 x2 : T26b3.T) (x3 x4 x5 x6 x7 x8 x9 : Int) : St := ⟨85, [(0, .cv (.agg (encC .any T26b3 x1)))], [(.box 13, (encC .any T26b3 x2)), (.box 13, [.nils, .i x3, .i x4, .i x5, .i x6, .i x7, .i x8, .nils, .nils, .nils, .nils, .nils, .i x9]), (.box 6, [.fn 35 [] [], .fn 36 [] [], .fn 37 [] [], .fn 38 [] [], .fn 39 [] [], .fn 39 [] []])]⟩
noncomputable def out (x2 : T26b3.T) (x3 x4 x5 x6 x7 x8 x9 : Int) (r : R) : St := ⟨85, [(2, .cv (.one (.ptr 3 0)))], [(.box 13, (encC .any T26b3 x2)), (.box 13, [.nils, .i x3, .i x4, .i x5, .i x6, .i x7, .i x8, .nils, .nils, .nils, .nils, .nils, .i x9]), (.box 6, [.fn 35 [] [], .fn 36 [] [], .fn 37 [] [], .fn 38 [] [], .fn 39 [] [], .fn 39 [] []]), (.box 13, [.own 4, .i r.1, .i r.2.1, .i r.2.2.1, .i r.2.2.2.1, .i r.2.2.2.2.1, .i r.2.2.2.2.2.1, .own 5, .own 6, .own 7, .own 8, .own 9, .i r.2.2.2.2.2.2.1]), (.buf 64 (.slice (.slice T1383)) r.2.2.2.2.2.2.2.1, []), (.buf 3 (.int .i64) r.2.2.2.2.2.2.2.2.1, []), (.buf 50 T23b6 r.2.2.2.2.2.2.2.2.2.1, []), (.buf 95 T713d r.2.2.2.2.2.2.2.2.2.2.1, []), (.buf 3 (.int .i64) r.2.2.2.2.2.2.2.2.2.2.2.1, []), (.buf 3 (.int .i64) r.2.2.2.2.2.2.2.2.2.2.2.2.1, [])]⟩
abbrev Q (x2 : T26b3.T) (x3 x4 x5 x6 x7 x8 x9 : Int) (r : R) := CallQ 3 (out x2 x3 x4 x5 x6 x7 x8 x9 r)
noncomputable def s1 (x2 : T26b3.T) (x3 x4 x5 x6 x7 x8 x9 p1 p2 p11 p12 p13 p14 p15 p16 : Int) (p17 : List Int) (p18 : List T23b6.T) (p19 : List T713d.T) (p20 p21 : List Int) (p22 : Int) (p23 : List (List (List T1383.T))) : St := ⟨85, [(1, .cv (.one (.ptr 3 0))), (13, .cv (.one (.own 4))), (14, .cv (.one (.i p1))), (15, .cv (.one (.i p2)))], [(.box 13, (encC .any T26b3 x2)), (.box 13, [.nils, .i x3, .i x4, .i x5, .i x6, .i x7, .i x8, .nils, .nils, .nils, .nils, .nils, .i x9]), (.box 6, [.fn 35 [] [], .fn 36 [] [], .fn 37 [] [], .fn 38 [] [], .fn 39 [] [], .fn 39 [] []]), (.box 13, [.own 4, .i p11, .i p12, .i p13, .i p14, .i p15, .i p16, .sl (.int .i64) p17 .any, .sl T23b6 p18 .any, .sl T713d p19 .any, .sl (.int .i64) p20 .any, .sl (.int .i64) p21 .any, .i p22]), (.buf 64 (.slice (.slice T1383)) p23, [])]⟩
noncomputable def s2 (x2 : T26b3.T) (x3 x4 x5 x6 x7 x8 x9 p1 p2 p3 p4 p5 p14 p15 p16 p17 p18 p19 : Int) (p20 : List Int) (p21 : List T23b6.T) (p22 : List T713d.T) (p23 p24 : List Int) (p25 : Int) (p26 : List (List T1383.T)) (p27 : List (List (List T1383.T))) : St := ⟨85, [(1, .cv (.one (.ptr 3 0))), (3, .cv (.one (.i p1))), (4, .cv (.one (.own 4))), (13, .cv (.one (.own 5))), (14, .cv (.one (.i p2))), (15, .cv (.one (.i p3))), (22, .cv (.one (.own 4))), (23, .cv (.one (.i p4))), (24, .cv (.one (.i p5)))], [(.box 13, (encC .any T26b3 x2)), (.box 13, [.nils, .i x3, .i x4, .i x5, .i x6, .i x7, .i x8, .nils, .nils, .nils, .nils, .nils, .i x9]), (.box 6, [.fn 35 [] [], .fn 36 [] [], .fn 37 [] [], .fn 38 [] [], .fn 39 [] [], .fn 39 [] []]), (.box 13, [.own 5, .i p14, .i p15, .i p16, .i p17, .i p18, .i p19, .sl (.int .i64) p20 .any, .sl T23b6 p21 .any, .sl T713d p22 .any, .sl (.int .i64) p23 .any, .sl (.int .i64) p24 .any, .i p25]), (.buf 52 (.slice T1383) p26, []), (.buf 64 (.slice (.slice T1383)) p27, [])]⟩
noncomputable def b2 (x2 : T26b3.T) (x3 x4 x5 x6 x7 x8 x9 : Int) (L1 : Int → Int → Int → Int → Int → Int → Int → Int → List Int → List T23b6.T → List T713d.T → List Int → List Int → Int → List (List (List T1383.T)) → Option R) (L2 : Int → Int → Int → Int → Int → Int → Int → Int → Int → Int → Int → List Int → List T23b6.T → List T713d.T → List Int → List Int → Int → List (List T1383.T) → List (List (List T1383.T)) → Option R) (k : Nat) (p1 p2 p3 p4 p5 p14 p15 p16 p17 p18 p19 : Int) (p20 : List Int) (p21 : List T23b6.T) (p22 : List T713d.T) (p23 p24 : List Int) (p25 : Int) (p26 : List (List T1383.T)) (p27 : List (List (List T1383.T))) : Option R :=
  if (decide (p5 < p4)) = true then
  if 0 ≤ p5 then
    if p5 < (p26.length : Int) then
      (f_slices_Clone_Rule.f k (att (.slice T1383) p26 p5)).bind fun y11 =>
        L2 p1 p2 p3 p4 (IntKind.i64.wrap (p5 + 1)) p14 p15 p16 p17 p18 p19 p20 p21 p22 p23 p24 p25 (p26.set p5.toNat y11.1) p27
    else none
  else none
else
  if 0 ≤ p1 then
    if p1 < (p27.length : Int) then
      L1 p2 (IntKind.i64.wrap (p3 + 1)) p14 p15 p16 p17 p18 p19 p20 p21 p22 p23 p24 p25 (p27.set p1.toNat p26)
    else none
  else none
theorem b2_ok {r x2 x3 x4 x5 x6 x7 x8 x9} {L1 : Int → Int → Int → Int → Int → Int → Int → Int → List Int → List T23b6.T → List T713d.T → List Int → List Int → Int → List (List (List T1383.T)) → Option R} {m1 : Nat} (hL1 : ∀ p1 p2 p11 p12 p13 p14 p15 p16 p17 p18 p19 p20 p21 p22 p23, L1 p1 p2 p11 p12 p13 p14 p15 p16 p17 p18 p19 p20 p21 p22 p23 = some r → Gw P 3 (Q x2 x3 x4 x5 x6 x7 x8 x9 r) (Pb c0 43 [] m1) (s1 x2 x3 x4 x5 x6 x7 x8 x9 p1 p2 p11 p12 p13 p14 p15 p16 p17 p18 p19 p20 p21 p22 p23)) {L2 : Int → Int → Int → Int → Int → Int → Int → Int → Int → Int → Int → List Int → List T23b6.T → List T713d.T → List Int → List Int → Int → List (List T1383.T) → List (List (List T1383.T)) → Option R} {m2 : Nat} (hL2 : ∀ p1 p2 p3 p4 p5 p14 p15 p16 p17 p18 p19 p20 p21 p22 p23 p24 p25 p26 p27, L2 p1 p2 p3 p4 p5 p14 p15 p16 p17 p18 p19 p20 p21 p22 p23 p24 p25 p26 p27 = some r → Gw P 3 (Q x2 x3 x4 x5 x6 x7 x8 x9 r) (Pb c0 44235 [m1] m2) (s2 x2 x3 x4 x5 x6 x7 x8 x9 p1 p2 p3 p4 p5 p14 p15 p16 p17 p18 p19 p20 p21 p22 p23 p24 p25 p26 p27)) {k p1 p2 p3 p4 p5 p14 p15 p16 p17 p18 p19 p20 p21 p22 p23 p24 p25 p26 p27} (H : b2 x2 x3 x4 x5 x6 x7 x8 x9 L1 L2 k p1 p2 p3 p4 p5 p14 p15 p16 p17 p18 p19 p20 p21 p22 p23 p24 p25 p26 p27 = some r) : Gw P 3 (Q x2 x3 x4 x5 x6 x7 x8 x9 r) (Px c0 77003 [m1, m2]) (s2 x2 x3 x4 x5 x6 x7 x8 x9 p1 p2 p3 p4 p5 p14 p15 p16 p17 p18 p19 p20 p21 p22 p23 p24 p25 p26 p27) := by
  unfold b2 at H
  refine Rg V_ok 0 [] az ?_
  rcases of_ite H with ⟨hb8, H⟩ | ⟨hb8, H⟩
  · refine C1 hb8 ?_
    obtain ⟨n9, H⟩ := of_if H
    obtain ⟨n10, H⟩ := of_if H
    refine Rg V_ok 0 [] (ac n9 (ac n10 az)) ?_
    obtain ⟨y11, e12, H⟩ := of_bind H
    refine Rg V_ok 0 [(3, hr f_slices_Clone_Rule.S y11)] (ac (f_slices_Clone_Rule.rl e12) (ac n9 (ac n10 az))) ?_
    refine Rg V_ok 0 [] az ?_
    exact Jm (tn [1, 3, 4, 13, 14, 15, 22, 23, 24] 6) (hL2 p1 p2 p3 p4 (IntKind.i64.wrap (p5 + 1)) p14 p15 p16 p17 p18 p19 p20 p21 p22 p23 p24 p25 (p26.set p5.toNat y11.1) p27 H)
  · refine C0 hb8 ?_
    refine FZ 4 ?_
    obtain ⟨n13, H⟩ := of_if H
    obtain ⟨n14, H⟩ := of_if H
    refine Rg V_ok 0 [] (ac n13 (ac n14 az)) ?_
    refine Rg V_ok 0 [] az ?_
    exact Jm (tl [1, 13, 14, 15] [0, 1, 2, 3, 5]) (hL1 p2 (IntKind.i64.wrap (p3 + 1)) p14 p15 p16 p17 p18 p19 p20 p21 p22 p23 p24 p25 (p27.set p1.toNat p26) H)
noncomputable def l2 (x2 : T26b3.T) (x3 x4 x5 x6 x7 x8 x9 : Int) (L1 : Int → Int → Int → Int → Int → Int → Int → Int → List Int → List T23b6.T → List T713d.T → List Int → List Int → Int → List (List (List T1383.T)) → Option R) (k : Nat) : Nat → Int → Int → Int → Int → Int → Int → Int → Int → Int → Int → Int → List Int → List T23b6.T → List T713d.T → List Int → List Int → Int → List (List T1383.T) → List (List (List T1383.T)) → Option R
  | 0, _, _, _, _, _, _, _, _, _, _, _, _, _, _, _, _, _, _, _ => none
  | m + 1, p1, p2, p3, p4, p5, p14, p15, p16, p17, p18, p19, p20, p21, p22, p23, p24, p25, p26, p27 => b2 x2 x3 x4 x5 x6 x7 x8 x9 L1 (l2 x2 x3 x4 x5 x6 x7 x8 x9 L1 k m) k p1 p2 p3 p4 p5 p14 p15 p16 p17 p18 p19 p20 p21 p22 p23 p24 p25 p26 p27
theorem l2_ok {r x2 x3 x4 x5 x6 x7 x8 x9} {L1 : Int → Int → Int → Int → Int → Int → Int → Int → List Int → List T23b6.T → List T713d.T → List Int → List Int → Int → List (List (List T1383.T)) → Option R} {m1 : Nat} (hL1 : ∀ p1 p2 p11 p12 p13 p14 p15 p16 p17 p18 p19 p20 p21 p22 p23, L1 p1 p2 p11 p12 p13 p14 p15 p16 p17 p18 p19 p20 p21 p22 p23 = some r → Gw P 3 (Q x2 x3 x4 x5 x6 x7 x8 x9 r) (Pb c0 43 [] m1) (s1 x2 x3 x4 x5 x6 x7 x8 x9 p1 p2 p11 p12 p13 p14 p15 p16 p17 p18 p19 p20 p21 p22 p23)) (k : Nat) : ∀ (m2 : Nat) (p1 p2 p3 p4 p5 p14 p15 p16 p17 p18 p19 : Int) (p20 : List Int) (p21 : List T23b6.T) (p22 : List T713d.T) (p23 p24 : List Int) (p25 : Int) (p26 : List (List T1383.T)) (p27 : List (List (List T1383.T))), l2 x2 x3 x4 x5 x6 x7 x8 x9 L1 k m2 p1 p2 p3 p4 p5 p14 p15 p16 p17 p18 p19 p20 p21 p22 p23 p24 p25 p26 p27 = some r → Gw P 3 (Q x2 x3 x4 x5 x6 x7 x8 x9 r) (Pb c0 44235 [m1] m2) (s2 x2 x3 x4 x5 x6 x7 x8 x9 p1 p2 p3 p4 p5 p14 p15 p16 p17 p18 p19 p20 p21 p22 p23 p24 p25 p26 p27)
  | 0, _, _, _, _, _, _, _, _, _, _, _, _, _, _, _, _, _, _, _, H => by cases H
  | m2 + 1, p1, p2, p3, p4, p5, p14, p15, p16, p17, p18, p19, p20, p21, p22, p23, p24, p25, p26, p27, H => SU (by kernel_rfl) (b2_ok hL1 (l2_ok hL1 k m2) H)
noncomputable def s3 (x2 : T26b3.T) (x3 x4 x5 x6 x7 x8 x9 p1 p2 p11 p12 p13 p14 p15 p16 : Int) (p17 : List Int) (p18 : List T713d.T) (p19 p20 : List Int) (p21 : Int) (p22 : List (List (List T1383.T))) (p23 : List T23b6.T) : St := ⟨85, [(1, .cv (.one (.ptr 3 0))), (47, .cv (.one (.i p1))), (48, .cv (.one (.i p2)))], [(.box 13, (encC .any T26b3 x2)), (.box 13, [.nils, .i x3, .i x4, .i x5, .i x6, .i x7, .i x8, .nils, .nils, .nils, .nils, .nils, .i x9]), (.box 6, [.fn 35 [] [], .fn 36 [] [], .fn 37 [] [], .fn 38 [] [], .fn 39 [] [], .fn 39 [] []]), (.box 13, [.own 4, .i p11, .i p12, .i p13, .i p14, .i p15, .i p16, .sl (.int .i64) p17 .any, .own 5, .sl T713d p18 .any, .sl (.int .i64) p19 .any, .sl (.int .i64) p20 .any, .i p21]), (.buf 64 (.slice (.slice T1383)) p22, []), (.buf 50 T23b6 p23, [])]⟩
noncomputable def b3 (x2 : T26b3.T) (x3 x4 x5 x6 x7 x8 x9 : Int) (L3 : Int → Int → Int → Int → Int → Int → Int → Int → List Int → List T713d.T → List Int → List Int → Int → List (List (List T1383.T)) → List T23b6.T → Option R) (k : Nat) (p1 p2 p11 p12 p13 p14 p15 p16 : Int) (p17 : List Int) (p18 : List T713d.T) (p19 p20 : List Int) (p21 : Int) (p22 : List (List (List T1383.T))) (p23 : List T23b6.T) : Option R :=
  if (decide (p2 < p1)) = true then
  if 0 ≤ p2 then
    if p2 < (p23.length : Int) then
      (f_slices_Clone_Msg.f k (((((att T23b6 p23 p2).2).2).2).2)).bind fun y18 =>
        L3 p1 (IntKind.i64.wrap (p2 + 1)) p11 p12 p13 p14 p15 p16 p17 p18 p19 p20 p21 p22 (p23.set p2.toNat ((att T23b6 p23 p2).1, (((att T23b6 p23 p2).2).1, ((((att T23b6 p23 p2).2).2).1, (((((att T23b6 p23 p2).2).2).2).1, y18.1)))))
    else none
  else none
else
  (f_slices_Clone_intO.f k p17).bind fun y22 =>
      (f_slices_Clone_GivenO.f k p18).bind fun y24 =>
        (f_slices_Clone_intO.f k p19).bind fun y26 =>
          (f_slices_Clone_intO.f k p20).bind fun y28 =>
            some (p11, (p12, (p13, (p14, (p15, (p16, (p21, (p22, (y22.1, (p23, (y24.1, (y26.1, (y28.1, ())))))))))))))
theorem b3_ok {r x2 x3 x4 x5 x6 x7 x8 x9} {L3 : Int → Int → Int → Int → Int → Int → Int → Int → List Int → List T713d.T → List Int → List Int → Int → List (List (List T1383.T)) → List T23b6.T → Option R} {m3 : Nat} (hL3 : ∀ p1 p2 p11 p12 p13 p14 p15 p16 p17 p18 p19 p20 p21 p22 p23, L3 p1 p2 p11 p12 p13 p14 p15 p16 p17 p18 p19 p20 p21 p22 p23 = some r → Gw P 3 (Q x2 x3 x4 x5 x6 x7 x8 x9 r) (Pb c0 175 [] m3) (s3 x2 x3 x4 x5 x6 x7 x8 x9 p1 p2 p11 p12 p13 p14 p15 p16 p17 p18 p19 p20 p21 p22 p23)) {k p1 p2 p11 p12 p13 p14 p15 p16 p17 p18 p19 p20 p21 p22 p23} (H : b3 x2 x3 x4 x5 x6 x7 x8 x9 L3 k p1 p2 p11 p12 p13 p14 p15 p16 p17 p18 p19 p20 p21 p22 p23 = some r) : Gw P 3 (Q x2 x3 x4 x5 x6 x7 x8 x9 r) (Px c0 303 [m3]) (s3 x2 x3 x4 x5 x6 x7 x8 x9 p1 p2 p11 p12 p13 p14 p15 p16 p17 p18 p19 p20 p21 p22 p23) := by
  unfold b3 at H
  refine Rg V_ok 0 [] az ?_
  rcases of_ite H with ⟨hb17, H⟩ | ⟨hb17, H⟩
  · refine C1 hb17 ?_
    refine Rg V_ok 0 [] az ?_
    obtain ⟨n19, H⟩ := of_if H
    obtain ⟨n20, H⟩ := of_if H
    obtain ⟨y18, e21, H⟩ := of_bind H
    refine Rg V_ok 0 [(10, hr f_slices_Clone_Msg.S y18)] (ac n19 (ac n20 (ac (f_slices_Clone_Msg.rl e21) (ac n19 (ac n20 az))))) ?_
    refine Rg V_ok 0 [] az ?_
    exact Jm (tn [1, 47, 48] 6) (hL3 p1 (IntKind.i64.wrap (p2 + 1)) p11 p12 p13 p14 p15 p16 p17 p18 p19 p20 p21 p22 (p23.set p2.toNat ((att T23b6 p23 p2).1, (((att T23b6 p23 p2).2).1, ((((att T23b6 p23 p2).2).2).1, (((((att T23b6 p23 p2).2).2).2).1, y18.1))))) H)
  · refine C0 hb17 ?_
    obtain ⟨y22, e23, H⟩ := of_bind H
    obtain ⟨y24, e25, H⟩ := of_bind H
    obtain ⟨y26, e27, H⟩ := of_bind H
    obtain ⟨y28, e29, H⟩ := of_bind H
    let x : Nx := (Px c0 95 [])
    let t0 : St := ⟨85, [(1, .cv (.one (.ptr 3 0)))], [(.box 13, (encC .any T26b3 x2)), (.box 13, [.nils, .i x3, .i x4, .i x5, .i x6, .i x7, .i x8, .nils, .nils, .nils, .nils, .nils, .i x9]), (.box 6, [.fn 35 [] [], .fn 36 [] [], .fn 37 [] [], .fn 38 [] [], .fn 39 [] [], .fn 39 [] []]), (.box 13, [.own 4, .i p11, .i p12, .i p13, .i p14, .i p15, .i p16, .sl (.int .i64) p17 .any, .own 5, .sl T713d p18 .any, .sl (.int .i64) p19 .any, .sl (.int .i64) p20 .any, .i p21]), (.buf 64 (.slice (.slice T1383)) p22, []), (.buf 50 T23b6 p23, [])]⟩
    refine Jm (x' := x) (τ := t0) (tn [1] 6) ?_
    let Φ := phiX P 3 (Q x2 x3 x4 x5 x6 x7 x8 x9 r) x
    let t1 : St := stpS V x 0 [] 0 (tn [1, 66] 6) t0
    let t2 : St := stpS V x 0 [] 3 (tn [1, 66, 69] 6) t1
    let t3 : St := stpS V x 0 [] 6 (tn [1, 66, 69, 72] 6) t2
    let t4 : St := stpS V x 0 [] 9 (tn [1, 66, 69, 72, 75] 6) t3
    let t5 : St := stpS V x 0 [] 1 (tn [1, 67, 69, 72, 75] 6) t4
    let t6 : St := stpS V x 0 [] 4 (tn [1, 66, 70, 72, 75] 6) t4
    let t7 : St := stpS V x 0 [] 7 (tn [1, 66, 69, 73, 75] 6) t4
    let t8 : St := stpS V x 0 [] 10 (tn [1, 66, 69, 72, 76] 6) t4
    let t9 : St := stpS V x 1 [(2, {sb := 6, res := some ⟨f_slices_Clone_intO.S.rs, y22⟩})] 2 (tl [1, 68, 69, 72, 75] [0, 1, 2, 3, 6, 4, 5]) t5
    let t10 : St := stpS V x 0 [] 4 (tn [1, 67, 70, 72, 75] 6) t5
    let t11 : St := stpS V x 0 [] 7 (tn [1, 67, 69, 73, 75] 6) t5
    let t12 : St := stpS V x 0 [] 10 (tn [1, 67, 69, 72, 76] 6) t5
    let t13 : St := stpS V x 0 [] 7 (tn [1, 66, 70, 73, 75] 6) t6
    let t14 : St := stpS V x 0 [] 10 (tn [1, 66, 70, 72, 76] 6) t6
    let t15 : St := stpS V x 0 [] 10 (tn [1, 66, 69, 73, 76] 6) t7
    let t16 : St := stpS V x 0 [] 4 (tn [1, 68, 70, 72, 75] 7) t9
    let t17 : St := stpS V x 0 [] 7 (tn [1, 68, 69, 73, 75] 7) t9
    let t18 : St := stpS V x 0 [] 10 (tn [1, 68, 69, 72, 76] 7) t9
    let t19 : St := stpS V x 0 [] 7 (tn [1, 67, 70, 73, 75] 6) t10
    let t20 : St := stpS V x 0 [] 10 (tn [1, 67, 70, 72, 76] 6) t10
    let t21 : St := stpS V x 0 [] 10 (tn [1, 67, 69, 73, 76] 6) t11
    let t22 : St := stpS V x 0 [] 10 (tn [1, 66, 70, 73, 76] 6) t13
    let t23 : St := stpS V x 1 [(5, {sb := 7, res := some ⟨f_slices_Clone_GivenO.S.rs, y24⟩})] 5 (tl [1, 68, 71, 72, 75] [0, 1, 2, 3, 4, 7, 5, 6]) t16
    let t24 : St := stpS V x 0 [] 7 (tn [1, 68, 70, 73, 75] 7) t16
    let t25 : St := stpS V x 0 [] 10 (tn [1, 68, 70, 72, 76] 7) t16
    let t26 : St := stpS V x 0 [] 10 (tn [1, 68, 69, 73, 76] 7) t17
    let t27 : St := stpS V x 0 [] 10 (tn [1, 67, 70, 73, 76] 6) t19
    let t28 : St := stpS V x 0 [] 7 (tn [1, 68, 71, 73, 75] 8) t23
    let t29 : St := stpS V x 0 [] 10 (tn [1, 68, 71, 72, 76] 8) t23
    let t30 : St := stpS V x 0 [] 10 (tn [1, 68, 70, 73, 76] 7) t24
    let t31 : St := stpS V x 1 [(8, {sb := 8, res := some ⟨f_slices_Clone_intO.S.rs, y26⟩})] 8 (tl [1, 68, 71, 74, 75] [0, 1, 2, 3, 4, 5, 8, 6, 7]) t28
    let t32 : St := stpS V x 0 [] 10 (tn [1, 68, 71, 73, 76] 8) t28
    let t33 : St := stpS V x 0 [] 12 (tn [1, 68, 70, 73, 76, 78] 7) t30
    let t34 : St := stpS V x 0 [] 10 (tn [1, 68, 71, 74, 76] 9) t31
    let t35 : St := stpS V x 0 [] 12 (tn [1, 68, 71, 73, 76, 78] 8) t32
    let t36 : St := stpS V x 0 [] 12 (tn [1, 68, 71, 74, 76, 78] 9) t34
    let t37 : St := stpS V x 1 [(11, {sb := 9, res := some ⟨f_slices_Clone_intO.S.rs, y28⟩})] 11 (tl [1, 68, 71, 74, 77, 78] [0, 1, 2, 3, 4, 5, 6, 9, 7, 8]) t36
    let t38 : St := stpS V x 0 [] 13 (tl [1, 71, 74, 77] [0, 1, 2, 3, 5, 6, 7, 8, 4, 9]) t37
    let t39 : St := stpS V x 0 [] 14 (tn [1, 71, 74, 77, 79] 10) t38
    let t40 : St := stpS V x 0 [] 15 (tl [1, 74, 77] [0, 1, 2, 3, 5, 6, 7, 8, 9, 4]) t39
    let t41 : St := stpS V x 0 [] 16 (tn [1, 74, 77, 80] 10) t40
    let t42 : St := stpS V x 0 [] 17 (tl [1, 77] [0, 1, 2, 3, 5, 6, 7, 8, 9, 4]) t41
    let t43 : St := stpS V x 0 [] 18 (tn [1, 77, 81] 10) t42
    let t44 : St := stpS V x 0 [] 19 (tl [1] [0, 1, 2, 3, 5, 6, 7, 8, 9, 4]) t43
    have w44 : WA P 3 (opsX x) 0 (bs 20 1048575) Φ t44 := by
      refine WA_nil (by kernel_rfl) (RAn (by kernel_rfl) ?_)
      refine Rg V_ok 1 [(2, hb 10)] az ?_
      obtain rfl := Option.some.inj H
      exact Lq (tl [2] [0, 1, 2, 10, 4, 5, 6, 7, 8, 9])
    have w43 : WA P 3 (opsX x) 1 (bs 20 524287) Φ t43 := WAs (an (WE V_ok 0 [] 19 (tl [1] [0, 1, 2, 3, 5, 6, 7, 8, 9, 4]) az w44) aN)
    have w42 : WA P 3 (opsX x) 2 (bs 20 262143) Φ t42 := WT V_ok [] 18 (tn [1, 77, 81] 10) az w43
    have w41 : WA P 3 (opsX x) 3 (bs 20 131071) Φ t41 := WAs (an (WE V_ok 0 [] 17 (tl [1, 77] [0, 1, 2, 3, 5, 6, 7, 8, 9, 4]) az w42) aN)
    have w40 : WA P 3 (opsX x) 4 (bs 20 65535) Φ t40 := WT V_ok [] 16 (tn [1, 74, 77, 80] 10) az w41
    have w39 : WA P 3 (opsX x) 5 (bs 20 32767) Φ t39 := WAs (an (WE V_ok 0 [] 15 (tl [1, 74, 77] [0, 1, 2, 3, 5, 6, 7, 8, 9, 4]) az w40) aN)
    have w38 : WA P 3 (opsX x) 6 (bs 20 16383) Φ t38 := WT V_ok [] 14 (tn [1, 71, 74, 77, 79] 10) az w39
    have w37 : WA P 3 (opsX x) 7 (bs 20 8191) Φ t37 := WAs (an (WE V_ok 0 [] 13 (tl [1, 71, 74, 77] [0, 1, 2, 3, 5, 6, 7, 8, 4, 9]) az w38) aN)
    have w36 : WA P 3 (opsX x) 8 (bs 20 6143) Φ t36 := WAs (an (WE V_ok 1 [(11, {sb := 9, res := some ⟨f_slices_Clone_intO.S.rs, y28⟩})] 11 (tl [1, 68, 71, 74, 77, 78] [0, 1, 2, 3, 4, 5, 6, 9, 7, 8]) (ac (f_slices_Clone_intO.rl e29) az) w37) aN)
    have w35 : WA P 3 (opsX x) 9 (bs 20 5887) Φ t35 := WAs (an (WE V_ok 1 [(8, {sb := 8, res := some ⟨f_slices_Clone_intO.S.rs, y26⟩})] 8 (tl [1, 68, 71, 74, 76, 78] [0, 1, 2, 3, 4, 5, 8, 6, 7]) (ac (f_slices_Clone_intO.rl e27) az) w36) aN)
    have w34 : WA P 3 (opsX x) 9 (bs 20 2047) Φ t34 := WT V_ok [] 12 (tn [1, 68, 71, 74, 76, 78] 9) az w36
    have w33 : WA P 3 (opsX x) 10 (bs 20 5855) Φ t33 := WAs (an (WE V_ok 1 [(5, {sb := 7, res := some ⟨f_slices_Clone_GivenO.S.rs, y24⟩})] 5 (tl [1, 68, 71, 73, 76, 78] [0, 1, 2, 3, 4, 7, 5, 6]) (ac (f_slices_Clone_GivenO.rl e25) az) w35) aN)
    have w32 : WA P 3 (opsX x) 10 (bs 20 1791) Φ t32 := WT V_ok [] 12 (tn [1, 68, 71, 73, 76, 78] 8) az w35
    have w31 : WA P 3 (opsX x) 10 (bs 20 1023) Φ t31 := WAs (an (WE V_ok 0 [] 10 (tn [1, 68, 71, 74, 76] 9) az w34) aN)
    have w30 : WA P 3 (opsX x) 11 (bs 20 1759) Φ t30 := WT V_ok [] 12 (tn [1, 68, 70, 73, 76, 78] 7) az w33
    have w29 : WA P 3 (opsX x) 11 (bs 20 1663) Φ t29 := WAs (an (WE V_ok 0 [] 7 (tn [1, 68, 71, 73, 76] 8) az w32) aN)
    have w28 : WA P 3 (opsX x) 11 (bs 20 767) Φ t28 := WAs (an (WE V_ok 1 [(8, {sb := 8, res := some ⟨f_slices_Clone_intO.S.rs, y26⟩})] 8 (tl [1, 68, 71, 74, 75] [0, 1, 2, 3, 4, 5, 8, 6, 7]) (ac (f_slices_Clone_intO.rl e27) az) w31) (an (WE V_ok 0 [] 10 (tn [1, 68, 71, 73, 76] 8) az w32) aN))
    have w27 : WA P 3 (opsX x) 12 (bs 20 1755) Φ t27 := WAs (an (WE V_ok 1 [(2, {sb := 6, res := some ⟨f_slices_Clone_intO.S.rs, y22⟩})] 2 (tl [1, 68, 70, 73, 76] [0, 1, 2, 3, 6, 4, 5]) (ac (f_slices_Clone_intO.rl e23) az) w30) aN)
    have w26 : WA P 3 (opsX x) 12 (bs 20 1743) Φ t26 := WAs (an (WE V_ok 0 [] 4 (tn [1, 68, 70, 73, 76] 7) az w30) aN)
    have w25 : WA P 3 (opsX x) 12 (bs 20 1631) Φ t25 := WAs (an (WE V_ok 1 [(5, {sb := 7, res := some ⟨f_slices_Clone_GivenO.S.rs, y24⟩})] 5 (tl [1, 68, 71, 72, 76] [0, 1, 2, 3, 4, 7, 5, 6]) (ac (f_slices_Clone_GivenO.rl e25) az) w29) (an (WE V_ok 0 [] 7 (tn [1, 68, 70, 73, 76] 7) az w30) aN))
    have w24 : WA P 3 (opsX x) 12 (bs 20 735) Φ t24 := WAs (an (WE V_ok 1 [(5, {sb := 7, res := some ⟨f_slices_Clone_GivenO.S.rs, y24⟩})] 5 (tl [1, 68, 71, 73, 75] [0, 1, 2, 3, 4, 7, 5, 6]) (ac (f_slices_Clone_GivenO.rl e25) az) w28) (an (WE V_ok 0 [] 10 (tn [1, 68, 70, 73, 76] 7) az w30) aN))
    have w23 : WA P 3 (opsX x) 12 (bs 20 639) Φ t23 := WAs (an (WE V_ok 0 [] 7 (tn [1, 68, 71, 73, 75] 8) az w28) (an (WE V_ok 0 [] 10 (tn [1, 68, 71, 72, 76] 8) az w29) aN))
    have w22 : WA P 3 (opsX x) 13 (bs 20 1753) Φ t22 := WAs (an (WE V_ok 0 [] 1 (tn [1, 67, 70, 73, 76] 6) az w27) aN)
    have w21 : WA P 3 (opsX x) 13 (bs 20 1739) Φ t21 := WAs (an (WE V_ok 1 [(2, {sb := 6, res := some ⟨f_slices_Clone_intO.S.rs, y22⟩})] 2 (tl [1, 68, 69, 73, 76] [0, 1, 2, 3, 6, 4, 5]) (ac (f_slices_Clone_intO.rl e23) az) w26) (an (WE V_ok 0 [] 4 (tn [1, 67, 70, 73, 76] 6) az w27) aN))
    have w20 : WA P 3 (opsX x) 13 (bs 20 1627) Φ t20 := WAs (an (WE V_ok 1 [(2, {sb := 6, res := some ⟨f_slices_Clone_intO.S.rs, y22⟩})] 2 (tl [1, 68, 70, 72, 76] [0, 1, 2, 3, 6, 4, 5]) (ac (f_slices_Clone_intO.rl e23) az) w25) (an (WE V_ok 0 [] 7 (tn [1, 67, 70, 73, 76] 6) az w27) aN))
    have w19 : WA P 3 (opsX x) 13 (bs 20 731) Φ t19 := WAs (an (WE V_ok 1 [(2, {sb := 6, res := some ⟨f_slices_Clone_intO.S.rs, y22⟩})] 2 (tl [1, 68, 70, 73, 75] [0, 1, 2, 3, 6, 4, 5]) (ac (f_slices_Clone_intO.rl e23) az) w24) (an (WE V_ok 0 [] 10 (tn [1, 67, 70, 73, 76] 6) az w27) aN))
    have w18 : WA P 3 (opsX x) 13 (bs 20 1615) Φ t18 := WAs (an (WE V_ok 0 [] 4 (tn [1, 68, 70, 72, 76] 7) az w25) (an (WE V_ok 0 [] 7 (tn [1, 68, 69, 73, 76] 7) az w26) aN))
    have w17 : WA P 3 (opsX x) 13 (bs 20 719) Φ t17 := WAs (an (WE V_ok 0 [] 4 (tn [1, 68, 70, 73, 75] 7) az w24) (an (WE V_ok 0 [] 10 (tn [1, 68, 69, 73, 76] 7) az w26) aN))
    have w16 : WA P 3 (opsX x) 13 (bs 20 607) Φ t16 := WAs (an (WE V_ok 1 [(5, {sb := 7, res := some ⟨f_slices_Clone_GivenO.S.rs, y24⟩})] 5 (tl [1, 68, 71, 72, 75] [0, 1, 2, 3, 4, 7, 5, 6]) (ac (f_slices_Clone_GivenO.rl e25) az) w23) (an (WE V_ok 0 [] 7 (tn [1, 68, 70, 73, 75] 7) az w24) (an (WE V_ok 0 [] 10 (tn [1, 68, 70, 72, 76] 7) az w25) aN)))
    have w15 : WA P 3 (opsX x) 14 (bs 20 1737) Φ t15 := WAs (an (WE V_ok 0 [] 1 (tn [1, 67, 69, 73, 76] 6) az w21) (an (WE V_ok 0 [] 4 (tn [1, 66, 70, 73, 76] 6) az w22) aN))
    have w14 : WA P 3 (opsX x) 14 (bs 20 1625) Φ t14 := WAs (an (WE V_ok 0 [] 1 (tn [1, 67, 70, 72, 76] 6) az w20) (an (WE V_ok 0 [] 7 (tn [1, 66, 70, 73, 76] 6) az w22) aN))
    have w13 : WA P 3 (opsX x) 14 (bs 20 729) Φ t13 := WAs (an (WE V_ok 0 [] 1 (tn [1, 67, 70, 73, 75] 6) az w19) (an (WE V_ok 0 [] 10 (tn [1, 66, 70, 73, 76] 6) az w22) aN))
    have w12 : WA P 3 (opsX x) 14 (bs 20 1611) Φ t12 := WAs (an (WE V_ok 1 [(2, {sb := 6, res := some ⟨f_slices_Clone_intO.S.rs, y22⟩})] 2 (tl [1, 68, 69, 72, 76] [0, 1, 2, 3, 6, 4, 5]) (ac (f_slices_Clone_intO.rl e23) az) w18) (an (WE V_ok 0 [] 4 (tn [1, 67, 70, 72, 76] 6) az w20) (an (WE V_ok 0 [] 7 (tn [1, 67, 69, 73, 76] 6) az w21) aN)))
    have w11 : WA P 3 (opsX x) 14 (bs 20 715) Φ t11 := WAs (an (WE V_ok 1 [(2, {sb := 6, res := some ⟨f_slices_Clone_intO.S.rs, y22⟩})] 2 (tl [1, 68, 69, 73, 75] [0, 1, 2, 3, 6, 4, 5]) (ac (f_slices_Clone_intO.rl e23) az) w17) (an (WE V_ok 0 [] 4 (tn [1, 67, 70, 73, 75] 6) az w19) (an (WE V_ok 0 [] 10 (tn [1, 67, 69, 73, 76] 6) az w21) aN)))
    have w10 : WA P 3 (opsX x) 14 (bs 20 603) Φ t10 := WAs (an (WE V_ok 1 [(2, {sb := 6, res := some ⟨f_slices_Clone_intO.S.rs, y22⟩})] 2 (tl [1, 68, 70, 72, 75] [0, 1, 2, 3, 6, 4, 5]) (ac (f_slices_Clone_intO.rl e23) az) w16) (an (WE V_ok 0 [] 7 (tn [1, 67, 70, 73, 75] 6) az w19) (an (WE V_ok 0 [] 10 (tn [1, 67, 70, 72, 76] 6) az w20) aN)))
    have w9 : WA P 3 (opsX x) 14 (bs 20 591) Φ t9 := WAs (an (WE V_ok 0 [] 4 (tn [1, 68, 70, 72, 75] 7) az w16) (an (WE V_ok 0 [] 7 (tn [1, 68, 69, 73, 75] 7) az w17) (an (WE V_ok 0 [] 10 (tn [1, 68, 69, 72, 76] 7) az w18) aN)))
    have w8 : WA P 3 (opsX x) 15 (bs 20 1609) Φ t8 := WAs (an (WE V_ok 0 [] 1 (tn [1, 67, 69, 72, 76] 6) az w12) (an (WE V_ok 0 [] 4 (tn [1, 66, 70, 72, 76] 6) az w14) (an (WE V_ok 0 [] 7 (tn [1, 66, 69, 73, 76] 6) az w15) aN)))
    have w7 : WA P 3 (opsX x) 15 (bs 20 713) Φ t7 := WAs (an (WE V_ok 0 [] 1 (tn [1, 67, 69, 73, 75] 6) az w11) (an (WE V_ok 0 [] 4 (tn [1, 66, 70, 73, 75] 6) az w13) (an (WE V_ok 0 [] 10 (tn [1, 66, 69, 73, 76] 6) az w15) aN)))
    have w6 : WA P 3 (opsX x) 15 (bs 20 601) Φ t6 := WAs (an (WE V_ok 0 [] 1 (tn [1, 67, 70, 72, 75] 6) az w10) (an (WE V_ok 0 [] 7 (tn [1, 66, 70, 73, 75] 6) az w13) (an (WE V_ok 0 [] 10 (tn [1, 66, 70, 72, 76] 6) az w14) aN)))
    have w5 : WA P 3 (opsX x) 15 (bs 20 587) Φ t5 := WAs (an (WE V_ok 1 [(2, {sb := 6, res := some ⟨f_slices_Clone_intO.S.rs, y22⟩})] 2 (tl [1, 68, 69, 72, 75] [0, 1, 2, 3, 6, 4, 5]) (ac (f_slices_Clone_intO.rl e23) az) w9) (an (WE V_ok 0 [] 4 (tn [1, 67, 70, 72, 75] 6) az w10) (an (WE V_ok 0 [] 7 (tn [1, 67, 69, 73, 75] 6) az w11) (an (WE V_ok 0 [] 10 (tn [1, 67, 69, 72, 76] 6) az w12) aN))))
    have w4 : WA P 3 (opsX x) 16 (bs 20 585) Φ t4 := WAs (an (WE V_ok 0 [] 1 (tn [1, 67, 69, 72, 75] 6) az w5) (an (WE V_ok 0 [] 4 (tn [1, 66, 70, 72, 75] 6) az w6) (an (WE V_ok 0 [] 7 (tn [1, 66, 69, 73, 75] 6) az w7) (an (WE V_ok 0 [] 10 (tn [1, 66, 69, 72, 76] 6) az w8) aN))))
    have w3 : WA P 3 (opsX x) 17 (bs 20 73) Φ t3 := WT V_ok [] 9 (tn [1, 66, 69, 72, 75] 6) az w4
    have w2 : WA P 3 (opsX x) 18 (bs 20 9) Φ t2 := WT V_ok [] 6 (tn [1, 66, 69, 72] 6) az w3
    have w1 : WA P 3 (opsX x) 19 (bs 20 1) Φ t1 := WT V_ok [] 3 (tn [1, 66, 69] 6) az w2
    have w0 : WA P 3 (opsX x) 20 (bs 20 0) Φ t0 := WT V_ok [] 0 (tn [1, 66] 6) az w1
    exact RA V_ok 20 (by kernel_rfl) (by kernel_rfl) (by kernel_rfl) w0
noncomputable def l3 (x2 : T26b3.T) (x3 x4 x5 x6 x7 x8 x9 : Int) (k : Nat) : Nat → Int → Int → Int → Int → Int → Int → Int → Int → List Int → List T713d.T → List Int → List Int → Int → List (List (List T1383.T)) → List T23b6.T → Option R
  | 0, _, _, _, _, _, _, _, _, _, _, _, _, _, _, _ => none
  | m + 1, p1, p2, p11, p12, p13, p14, p15, p16, p17, p18, p19, p20, p21, p22, p23 => b3 x2 x3 x4 x5 x6 x7 x8 x9 (l3 x2 x3 x4 x5 x6 x7 x8 x9 k m) k p1 p2 p11 p12 p13 p14 p15 p16 p17 p18 p19 p20 p21 p22 p23
theorem l3_ok {r x2 x3 x4 x5 x6 x7 x8 x9} (k : Nat) : ∀ (m3 : Nat) (p1 p2 p11 p12 p13 p14 p15 p16 : Int) (p17 : List Int) (p18 : List T713d.T) (p19 p20 : List Int) (p21 : Int) (p22 : List (List (List T1383.T))) (p23 : List T23b6.T), l3 x2 x3 x4 x5 x6 x7 x8 x9 k m3 p1 p2 p11 p12 p13 p14 p15 p16 p17 p18 p19 p20 p21 p22 p23 = some r → Gw P 3 (Q x2 x3 x4 x5 x6 x7 x8 x9 r) (Pb c0 175 [] m3) (s3 x2 x3 x4 x5 x6 x7 x8 x9 p1 p2 p11 p12 p13 p14 p15 p16 p17 p18 p19 p20 p21 p22 p23)
  | 0, _, _, _, _, _, _, _, _, _, _, _, _, _, _, _, H => by cases H
  | m3 + 1, p1, p2, p11, p12, p13, p14, p15, p16, p17, p18, p19, p20, p21, p22, p23, H => SU (by kernel_rfl) (b3_ok (l3_ok k m3) H)
noncomputable def b1 (x2 : T26b3.T) (x3 x4 x5 x6 x7 x8 x9 : Int) (L1 : Int → Int → Int → Int → Int → Int → Int → Int → List Int → List T23b6.T → List T713d.T → List Int → List Int → Int → List (List (List T1383.T)) → Option R) (k : Nat) (p1 p2 p11 p12 p13 p14 p15 p16 : Int) (p17 : List Int) (p18 : List T23b6.T) (p19 : List T713d.T) (p20 p21 : List Int) (p22 : Int) (p23 : List (List (List T1383.T))) : Option R :=
  if (decide (p2 < p1)) = true then
  if 0 ≤ p2 then
    if p2 < (p23.length : Int) then
      (f_slices_Clone_Conf_RuleO.f k (att (.slice (.slice T1383)) p23 p2)).bind fun y6 =>
        l2 x2 x3 x4 x5 x6 x7 x8 x9 L1 k k p2 p1 p2 (y6.1.length : Int) 0 p11 p12 p13 p14 p15 p16 p17 p18 p19 p20 p21 p22 y6.1 p23
    else none
  else none
else
  (f_slices_Clone_PeerO.f k p18).bind fun y15 =>
    l3 x2 x3 x4 x5 x6 x7 x8 x9 k k (y15.1.length : Int) 0 p11 p12 p13 p14 p15 p16 p17 p19 p20 p21 p22 p23 y15.1
theorem b1_ok {r x2 x3 x4 x5 x6 x7 x8 x9} {L1 : Int → Int → Int → Int → Int → Int → Int → Int → List Int → List T23b6.T → List T713d.T → List Int → List Int → Int → List (List (List T1383.T)) → Option R} {m1 : Nat} (hL1 : ∀ p1 p2 p11 p12 p13 p14 p15 p16 p17 p18 p19 p20 p21 p22 p23, L1 p1 p2 p11 p12 p13 p14 p15 p16 p17 p18 p19 p20 p21 p22 p23 = some r → Gw P 3 (Q x2 x3 x4 x5 x6 x7 x8 x9 r) (Pb c0 43 [] m1) (s1 x2 x3 x4 x5 x6 x7 x8 x9 p1 p2 p11 p12 p13 p14 p15 p16 p17 p18 p19 p20 p21 p22 p23)) {k p1 p2 p11 p12 p13 p14 p15 p16 p17 p18 p19 p20 p21 p22 p23} (H : b1 x2 x3 x4 x5 x6 x7 x8 x9 L1 k p1 p2 p11 p12 p13 p14 p15 p16 p17 p18 p19 p20 p21 p22 p23 = some r) : Gw P 3 (Q x2 x3 x4 x5 x6 x7 x8 x9 r) (Px c0 75 [m1]) (s1 x2 x3 x4 x5 x6 x7 x8 x9 p1 p2 p11 p12 p13 p14 p15 p16 p17 p18 p19 p20 p21 p22 p23) := by
  unfold b1 at H
  refine Rg V_ok 0 [] az ?_
  rcases of_ite H with ⟨hb3, H⟩ | ⟨hb3, H⟩
  · refine C1 hb3 ?_
    obtain ⟨n4, H⟩ := of_if H
    obtain ⟨n5, H⟩ := of_if H
    refine Rg V_ok 0 [] (ac n4 (ac n5 az)) ?_
    obtain ⟨y6, e7, H⟩ := of_bind H
    refine Rg V_ok 1 [(1, {sb := 5, res := some ⟨f_slices_Clone_Conf_RuleO.S.rs, y6⟩})] (ac (f_slices_Clone_Conf_RuleO.rl e7) az) ?_
    refine Rg V_ok 0 [] az ?_
    exact LP k (Jm (tl [1, 3, 4, 13, 14, 15, 22, 23, 24] [0, 1, 2, 3, 5, 4]) (l2_ok hL1 k k p2 p1 p2 (y6.1.length : Int) 0 p11 p12 p13 p14 p15 p16 p17 p18 p19 p20 p21 p22 y6.1 p23 H))
  · refine C0 hb3 ?_
    obtain ⟨y15, e16, H⟩ := of_bind H
    refine Rg V_ok 1 [(2, {sb := 5, res := some ⟨f_slices_Clone_PeerO.S.rs, y15⟩})] (ac (f_slices_Clone_PeerO.rl e16) az) ?_
    refine Rg V_ok 0 [] az ?_
    exact LP k (Jm (tn [1, 47, 48] 6) (l3_ok k k (y15.1.length : Int) 0 p11 p12 p13 p14 p15 p16 p17 p19 p20 p21 p22 p23 y15.1 H))
noncomputable def l1 (x2 : T26b3.T) (x3 x4 x5 x6 x7 x8 x9 : Int) (k : Nat) : Nat → Int → Int → Int → Int → Int → Int → Int → Int → List Int → List T23b6.T → List T713d.T → List Int → List Int → Int → List (List (List T1383.T)) → Option R
  | 0, _, _, _, _, _, _, _, _, _, _, _, _, _, _, _ => none
  | m + 1, p1, p2, p11, p12, p13, p14, p15, p16, p17, p18, p19, p20, p21, p22, p23 => b1 x2 x3 x4 x5 x6 x7 x8 x9 (l1 x2 x3 x4 x5 x6 x7 x8 x9 k m) k p1 p2 p11 p12 p13 p14 p15 p16 p17 p18 p19 p20 p21 p22 p23
theorem l1_ok {r x2 x3 x4 x5 x6 x7 x8 x9} (k : Nat) : ∀ (m1 : Nat) (p1 p2 p11 p12 p13 p14 p15 p16 : Int) (p17 : List Int) (p18 : List T23b6.T) (p19 : List T713d.T) (p20 p21 : List Int) (p22 : Int) (p23 : List (List (List T1383.T))), l1 x2 x3 x4 x5 x6 x7 x8 x9 k m1 p1 p2 p11 p12 p13 p14 p15 p16 p17 p18 p19 p20 p21 p22 p23 = some r → Gw P 3 (Q x2 x3 x4 x5 x6 x7 x8 x9 r) (Pb c0 43 [] m1) (s1 x2 x3 x4 x5 x6 x7 x8 x9 p1 p2 p11 p12 p13 p14 p15 p16 p17 p18 p19 p20 p21 p22 p23)
  | 0, _, _, _, _, _, _, _, _, _, _, _, _, _, _, _, H => by cases H
  | m1 + 1, p1, p2, p11, p12, p13, p14, p15, p16, p17, p18, p19, p20, p21, p22, p23, H => SU (by kernel_rfl) (b1_ok (l1_ok k m1) H)
noncomputable def f (k : Nat) (x1 x2 : T26b3.T) (x3 x4 x5 x6 x7 x8 x9 : Int) : Option R :=
  (f_slices_Clone_ConfO.f k x1.1).bind fun y1 =>
    l1 x2 x3 x4 x5 x6 x7 x8 x9 k k (y1.1.length : Int) 0 x1.2.1 x1.2.2.1 x1.2.2.2.1 x1.2.2.2.2.1 x1.2.2.2.2.2.1 x1.2.2.2.2.2.2.1 x1.2.2.2.2.2.2.2.1 x1.2.2.2.2.2.2.2.2.1 x1.2.2.2.2.2.2.2.2.2.1 x1.2.2.2.2.2.2.2.2.2.2.1 x1.2.2.2.2.2.2.2.2.2.2.2.1 x1.2.2.2.2.2.2.2.2.2.2.2.2 y1.1
theorem f_ok {r k x1 x2 x3 x4 x5 x6 x7 x8 x9} (H : f k x1 x2 x3 x4 x5 x6 x7 x8 x9 = some r) : Gw P 3 (Q x2 x3 x4 x5 x6 x7 x8 x9 r) (Px c0 1 []) (s0 x1 x2 x3 x4 x5 x6 x7 x8 x9) := by
  unfold f at H
  refine Rg V_ok 1 [(0, hb 3)] az ?_
  obtain ⟨y1, e2, H⟩ := of_bind H
  refine Rg V_ok 1 [(2, {sb := 4, res := some ⟨f_slices_Clone_ConfO.S.rs, y1⟩})] (ac (f_slices_Clone_ConfO.rl e2) az) ?_
  refine Rg V_ok 0 [] az ?_
  exact LP k (Jm (tn [1, 13, 14, 15] 5) (l1_ok k k (y1.1.length : Int) 0 x1.2.1 x1.2.2.1 x1.2.2.2.1 x1.2.2.2.2.1 x1.2.2.2.2.2.1 x1.2.2.2.2.2.2.1 x1.2.2.2.2.2.2.2.1 x1.2.2.2.2.2.2.2.2.1 x1.2.2.2.2.2.2.2.2.2.1 x1.2.2.2.2.2.2.2.2.2.2.1 x1.2.2.2.2.2.2.2.2.2.2.2.1 x1.2.2.2.2.2.2.2.2.2.2.2.2 y1.1 H))
theorem ok {r k x1 x2 x3 x4 x5 x6 x7 x8 x9} (H : f k x1 x2 x3 x4 x5 x6 x7 x8 x9 = some r) : W P 3 c0 (s0 x1 x2 x3 x4 x5 x6 x7 x8 x9) (CallQ 3 (out x2 x3 x4 x5 x6 x7 x8 x9 r)) := of_G (f_ok H)
theorem at_ : FnAt P 25 85 c0 Go.Proofs.Tryd.f25.results := fnAt Go.Proofs.Tryd.func25 (by kernel_rfl) (by decide) (by kernel_rfl) (by kernel_rfl)
end i_control_own_b6am
/-! ### function 54, (*wayfinder/control.controller).two, where it is called -/

namespace i_control_controller_two_ad0
noncomputable def c0 : Code := (Go.Proofs.Tryd.f54.body).getD .skip
noncomputable def V : Env := { tt := tt, Γ := slk [(87, f_slices_Contains_int.S)] }
theorem V_ok : EnvOk P V := { ck := tt_ck, fits := slk_cons f_slices_Contains_int.fits (slk_nil), mixed := mixed }
abbrev R := (Bool) × Unit
noncomputable def s0 (x1 : T26b3.T) (x2 x3 x4 x5 x6 x7 x8 x9 x10 x11 x12 x13 x14 x15 : Int) (x16 : List (List (List T1383.T))) (x17 : List Int) (x18 : List T23b6.T) (x19 : List T713d.T) (x20 x21 : List Int) : St := ⟨10, [(0, .cv (.one (.ptr 3 0)))], [(.box 13, (encC .any T26b3 x1)), (.box 13, [.nils, .i x2, .i x3, .i x4, .i x5, .i x6, .i x7, .nils, .nils, .nils, .nils, .nils, .i x8]), (.box 6, [.fn 35 [] [], .fn 36 [] [], .fn 37 [] [], .fn 38 [] [], .fn 39 [] [], .fn 39 [] []]), (.box 13, [.own 4, .i x9, .i x10, .i x11, .i x12, .i x13, .i x14, .own 5, .own 6, .own 7, .own 8, .own 9, .i x15]), (.buf 64 (.slice (.slice T1383)) x16, []), (.buf 3 (.int .i64) x17, []), (.buf 50 T23b6 x18, []), (.buf 95 T713d x19, []), (.buf 3 (.int .i64) x20, []), (.buf 3 (.int .i64) x21, []), (.box 1, [.ptr 3 0])]⟩
noncomputable def out (x1 : T26b3.T) (x2 x3 x4 x5 x6 x7 x8 x9 x10 x11 x12 x13 x14 x15 : Int) (x16 : List (List (List T1383.T))) (x17 : List Int) (x18 : List T23b6.T) (x19 : List T713d.T) (x20 x21 : List Int) (r : R) : St := ⟨10, [(2, .cv (.one (.bool r.1)))], [(.box 13, (encC .any T26b3 x1)), (.box 13, [.nils, .i x2, .i x3, .i x4, .i x5, .i x6, .i x7, .nils, .nils, .nils, .nils, .nils, .i x8]), (.box 6, [.fn 35 [] [], .fn 36 [] [], .fn 37 [] [], .fn 38 [] [], .fn 39 [] [], .fn 39 [] []]), (.box 13, [.own 4, .i x9, .i x10, .i x11, .i x12, .i x13, .i x14, .own 5, .own 6, .own 7, .own 8, .own 9, .i x15]), (.buf 64 (.slice (.slice T1383)) x16, []), (.buf 3 (.int .i64) x17, []), (.buf 50 T23b6 x18, []), (.buf 95 T713d x19, []), (.buf 3 (.int .i64) x20, []), (.buf 3 (.int .i64) x21, []), (.box 1, [.ptr 3 0])]⟩
abbrev Q (x1 : T26b3.T) (x2 x3 x4 x5 x6 x7 x8 x9 x10 x11 x12 x13 x14 x15 : Int) (x16 : List (List (List T1383.T))) (x17 : List Int) (x18 : List T23b6.T) (x19 : List T713d.T) (x20 x21 : List Int) (r : R) := CallQ 11 (out x1 x2 x3 x4 x5 x6 x7 x8 x9 x10 x11 x12 x13 x14 x15 x16 x17 x18 x19 x20 x21 r)
noncomputable def f (k : Nat) (x1 : T26b3.T) (x2 x3 x4 x5 x6 x7 x8 x9 x10 x11 x12 x13 x14 x15 : Int) (x16 : List (List (List T1383.T))) (x17 : List Int) (x18 : List T23b6.T) (x19 : List T713d.T) (x20 x21 : List Int) : Option R :=
  (f_slices_Contains_int.f k [1, 2, 3] x13).bind fun y1 =>
    some (y1.1, ())
theorem f_ok {r k x1 x2 x3 x4 x5 x6 x7 x8 x9 x10 x11 x12 x13 x14 x15 x16 x17 x18 x19 x20 x21} (H : f k x1 x2 x3 x4 x5 x6 x7 x8 x9 x10 x11 x12 x13 x14 x15 x16 x17 x18 x19 x20 x21 = some r) : Gw P 11 (Q x1 x2 x3 x4 x5 x6 x7 x8 x9 x10 x11 x12 x13 x14 x15 x16 x17 x18 x19 x20 x21 r) (Px c0 1 []) (s0 x1 x2 x3 x4 x5 x6 x7 x8 x9 x10 x11 x12 x13 x14 x15 x16 x17 x18 x19 x20 x21) := by
  unfold f at H
  refine Rg V_ok 0 [] az ?_
  obtain ⟨y1, e2, H⟩ := of_bind H
  refine Rg V_ok 0 [(6, hr f_slices_Contains_int.S y1)] (ac (f_slices_Contains_int.rl e2) az) ?_
  obtain rfl := Option.some.inj H
  exact Lq (tn [2] 11)
theorem ok {r k x1 x2 x3 x4 x5 x6 x7 x8 x9 x10 x11 x12 x13 x14 x15 x16 x17 x18 x19 x20 x21} (H : f k x1 x2 x3 x4 x5 x6 x7 x8 x9 x10 x11 x12 x13 x14 x15 x16 x17 x18 x19 x20 x21 = some r) : W P 11 c0 (s0 x1 x2 x3 x4 x5 x6 x7 x8 x9 x10 x11 x12 x13 x14 x15 x16 x17 x18 x19 x20 x21) (CallQ 11 (out x1 x2 x3 x4 x5 x6 x7 x8 x9 x10 x11 x12 x13 x14 x15 x16 x17 x18 x19 x20 x21 r)) := of_G (f_ok H)
theorem at_ : FnAt P 54 10 c0 Go.Proofs.Tryd.f54.results := fnAt Go.Proofs.Tryd.func54 (by kernel_rfl) (by decide) (by kernel_rfl) (by kernel_rfl)
end i_control_controller_two_ad0
/-! ### function 53, (*wayfinder/control.controller).is$1, where it is called -/

namespace i_control_controller_is_1_db3
noncomputable def c0 : Code := (Go.Proofs.Tryd.f53.body).getD .skip
noncomputable def V : Env := { tt := tt, Γ := slk [] }
theorem V_ok : EnvOk P V := { ck := tt_ck, fits := slk_nil, mixed := mixed }
abbrev R := (Bool) × Unit
noncomputable def s0 (x1 : Int) (x2 : T26b3.T) (x3 x4 x5 x6 x7 x8 x9 x10 x11 x12 x13 x14 x15 x16 : Int) (x17 : List (List (List T1383.T))) (x18 : List Int) (x19 : List T23b6.T) (x20 : List T713d.T) (x21 x22 : List Int) : St := ⟨16, [(0, .cv (.one (.i x1))), (1, .cv (.one (.ptr 10 0)))], [(.box 13, (encC .any T26b3 x2)), (.box 13, [.nils, .i x3, .i x4, .i x5, .i x6, .i x7, .i x8, .nils, .nils, .nils, .nils, .nils, .i x9]), (.box 6, [.fn 35 [] [], .fn 36 [] [], .fn 37 [] [], .fn 38 [] [], .fn 39 [] [], .fn 39 [] []]), (.box 13, [.own 4, .i x10, .i x11, .i x12, .i x13, .i x14, .i x15, .own 5, .own 6, .own 7, .own 8, .own 9, .i x16]), (.buf 64 (.slice (.slice T1383)) x17, []), (.buf 3 (.int .i64) x18, []), (.buf 50 T23b6 x19, []), (.buf 95 T713d x20, []), (.buf 3 (.int .i64) x21, []), (.buf 3 (.int .i64) x22, []), (.box 1, [.ptr 3 0])]⟩
noncomputable def out (x2 : T26b3.T) (x3 x4 x5 x6 x7 x8 x9 x10 x11 x12 x13 x14 x15 x16 : Int) (x17 : List (List (List T1383.T))) (x18 : List Int) (x19 : List T23b6.T) (x20 : List T713d.T) (x21 x22 : List Int) (r : R) : St := ⟨16, [(3, .cv (.one (.bool r.1)))], [(.box 13, (encC .any T26b3 x2)), (.box 13, [.nils, .i x3, .i x4, .i x5, .i x6, .i x7, .i x8, .nils, .nils, .nils, .nils, .nils, .i x9]), (.box 6, [.fn 35 [] [], .fn 36 [] [], .fn 37 [] [], .fn 38 [] [], .fn 39 [] [], .fn 39 [] []]), (.box 13, [.own 4, .i x10, .i x11, .i x12, .i x13, .i x14, .i x15, .own 5, .own 6, .own 7, .own 8, .own 9, .i x16]), (.buf 64 (.slice (.slice T1383)) x17, []), (.buf 3 (.int .i64) x18, []), (.buf 50 T23b6 x19, []), (.buf 95 T713d x20, []), (.buf 3 (.int .i64) x21, []), (.buf 3 (.int .i64) x22, []), (.box 1, [.ptr 3 0])]⟩
abbrev Q (x2 : T26b3.T) (x3 x4 x5 x6 x7 x8 x9 x10 x11 x12 x13 x14 x15 x16 : Int) (x17 : List (List (List T1383.T))) (x18 : List Int) (x19 : List T23b6.T) (x20 : List T713d.T) (x21 x22 : List Int) (r : R) := CallQ 11 (out x2 x3 x4 x5 x6 x7 x8 x9 x10 x11 x12 x13 x14 x15 x16 x17 x18 x19 x20 x21 x22 r)
noncomputable def f (k : Nat) (x1 : Int) (x2 : T26b3.T) (x3 x4 x5 x6 x7 x8 x9 x10 x11 x12 x13 x14 x15 x16 : Int) (x17 : List (List (List T1383.T))) (x18 : List Int) (x19 : List T23b6.T) (x20 : List T713d.T) (x21 x22 : List Int) : Option R :=
  if (decide (x1 < (0 : Int))) = true then
    some (true, ())
  else
    some ((decide (x1 ≥ (x17.length : Int))), ())
theorem f_ok {r k x1 x2 x3 x4 x5 x6 x7 x8 x9 x10 x11 x12 x13 x14 x15 x16 x17 x18 x19 x20 x21 x22} (H : f k x1 x2 x3 x4 x5 x6 x7 x8 x9 x10 x11 x12 x13 x14 x15 x16 x17 x18 x19 x20 x21 x22 = some r) : Gw P 11 (Q x2 x3 x4 x5 x6 x7 x8 x9 x10 x11 x12 x13 x14 x15 x16 x17 x18 x19 x20 x21 x22 r) (Px c0 1 []) (s0 x1 x2 x3 x4 x5 x6 x7 x8 x9 x10 x11 x12 x13 x14 x15 x16 x17 x18 x19 x20 x21 x22) := by
  unfold f at H
  refine Rg V_ok 0 [] az ?_
  rcases of_ite H with ⟨hb1, H⟩ | ⟨hb1, H⟩
  · refine Rg V_ok 0 [(1, {bv := some true})] (ac hb1 az) ?_
    obtain rfl := Option.some.inj H
    exact Lq (tn [3] 11)
  · refine Rg V_ok 0 [(1, {bv := some false})] (ac hb1 az) ?_
    obtain rfl := Option.some.inj H
    exact Lq (tn [3] 11)
theorem ok {r k x1 x2 x3 x4 x5 x6 x7 x8 x9 x10 x11 x12 x13 x14 x15 x16 x17 x18 x19 x20 x21 x22} (H : f k x1 x2 x3 x4 x5 x6 x7 x8 x9 x10 x11 x12 x13 x14 x15 x16 x17 x18 x19 x20 x21 x22 = some r) : W P 11 c0 (s0 x1 x2 x3 x4 x5 x6 x7 x8 x9 x10 x11 x12 x13 x14 x15 x16 x17 x18 x19 x20 x21 x22) (CallQ 11 (out x2 x3 x4 x5 x6 x7 x8 x9 x10 x11 x12 x13 x14 x15 x16 x17 x18 x19 x20 x21 x22 r)) := of_G (f_ok H)
theorem at_ : FnAt P 53 16 c0 Go.Proofs.Tryd.f53.results := fnAt Go.Proofs.Tryd.func53 (by kernel_rfl) (by decide) (by kernel_rfl) (by kernel_rfl)
end i_control_controller_is_1_db3
/-! ### function 88, slices.IndexFunc[[]int,int], where it is called -/

namespace i_slices_IndexFunc_int_336
noncomputable def c0 : Code := (Go.Proofs.Tryd.f88.body).getD .skip
noncomputable def V : Env := { tt := tt, Γ := slk [] }
theorem V_ok : EnvOk P V := { ck := tt_ck, fits := slk_nil, mixed := mixed }
abbrev R := (Int) × Unit
noncomputable def s0 (x1 : T26b3.T) (x2 x3 x4 x5 x6 x7 x8 x9 x10 x11 x12 x13 x14 x15 : Int) (x16 : List (List (List T1383.T))) (x17 : List Int) (x18 : List T23b6.T) (x19 : List T713d.T) (x20 x21 : List Int) : St := ⟨19, [(0, .cv (.one (.own 5))), (1, .cv (.one (.fn 53 [] [(10, 0)])))], [(.box 13, (encC .any T26b3 x1)), (.box 13, [.nils, .i x2, .i x3, .i x4, .i x5, .i x6, .i x7, .nils, .nils, .nils, .nils, .nils, .i x8]), (.box 6, [.fn 35 [] [], .fn 36 [] [], .fn 37 [] [], .fn 38 [] [], .fn 39 [] [], .fn 39 [] []]), (.box 13, [.own 4, .i x9, .i x10, .i x11, .i x12, .i x13, .i x14, .own 5, .own 6, .own 7, .own 8, .own 9, .i x15]), (.buf 64 (.slice (.slice T1383)) x16, []), (.buf 3 (.int .i64) x17, []), (.buf 50 T23b6 x18, []), (.buf 95 T713d x19, []), (.buf 3 (.int .i64) x20, []), (.buf 3 (.int .i64) x21, []), (.box 1, [.ptr 3 0])]⟩
noncomputable def out (x1 : T26b3.T) (x2 x3 x4 x5 x6 x7 x8 x9 x10 x11 x12 x13 x14 x15 : Int) (x16 : List (List (List T1383.T))) (x17 : List Int) (x18 : List T23b6.T) (x19 : List T713d.T) (x20 x21 : List Int) (r : R) : St := ⟨19, [(4, .cv (.one (.i r.1)))], [(.box 13, (encC .any T26b3 x1)), (.box 13, [.nils, .i x2, .i x3, .i x4, .i x5, .i x6, .i x7, .nils, .nils, .nils, .nils, .nils, .i x8]), (.box 6, [.fn 35 [] [], .fn 36 [] [], .fn 37 [] [], .fn 38 [] [], .fn 39 [] [], .fn 39 [] []]), (.box 13, [.own 4, .i x9, .i x10, .i x11, .i x12, .i x13, .i x14, .own 5, .own 6, .own 7, .own 8, .own 9, .i x15]), (.buf 64 (.slice (.slice T1383)) x16, []), (.buf 3 (.int .i64) x17, []), (.buf 50 T23b6 x18, []), (.buf 95 T713d x19, []), (.buf 3 (.int .i64) x20, []), (.buf 3 (.int .i64) x21, []), (.box 1, [.ptr 3 0])]⟩
abbrev Q (x1 : T26b3.T) (x2 x3 x4 x5 x6 x7 x8 x9 x10 x11 x12 x13 x14 x15 : Int) (x16 : List (List (List T1383.T))) (x17 : List Int) (x18 : List T23b6.T) (x19 : List T713d.T) (x20 x21 : List Int) (r : R) := CallQ 11 (out x1 x2 x3 x4 x5 x6 x7 x8 x9 x10 x11 x12 x13 x14 x15 x16 x17 x18 x19 x20 x21 r)
noncomputable def s1 (x1 : T26b3.T) (x2 x3 x4 x5 x6 x7 x8 x9 x10 x11 x12 x13 x14 x15 : Int) (x16 : List (List (List T1383.T))) (x17 : List Int) (x18 : List T23b6.T) (x19 : List T713d.T) (x20 x21 : List Int) (p1 p2 : Int) : St := ⟨19, [(0, .cv (.one (.own 5))), (1, .cv (.one (.fn 53 [] [(10, 0)]))), (7, .cv (.one (.i p1))), (8, .cv (.one (.i p2)))], [(.box 13, (encC .any T26b3 x1)), (.box 13, [.nils, .i x2, .i x3, .i x4, .i x5, .i x6, .i x7, .nils, .nils, .nils, .nils, .nils, .i x8]), (.box 6, [.fn 35 [] [], .fn 36 [] [], .fn 37 [] [], .fn 38 [] [], .fn 39 [] [], .fn 39 [] []]), (.box 13, [.own 4, .i x9, .i x10, .i x11, .i x12, .i x13, .i x14, .own 5, .own 6, .own 7, .own 8, .own 9, .i x15]), (.buf 64 (.slice (.slice T1383)) x16, []), (.buf 3 (.int .i64) x17, []), (.buf 50 T23b6 x18, []), (.buf 95 T713d x19, []), (.buf 3 (.int .i64) x20, []), (.buf 3 (.int .i64) x21, []), (.box 1, [.ptr 3 0])]⟩
noncomputable def b1 (x1 : T26b3.T) (x2 x3 x4 x5 x6 x7 x8 x9 x10 x11 x12 x13 x14 x15 : Int) (x16 : List (List (List T1383.T))) (x17 : List Int) (x18 : List T23b6.T) (x19 : List T713d.T) (x20 x21 : List Int) (L1 : Int → Int → Option R) (k : Nat) (p1 p2 : Int) : Option R :=
  if (decide (p2 < p1)) = true then
  if 0 ≤ p2 then
    if p2 < (x17.length : Int) then
      (i_control_controller_is_1_db3.f k (att (.int .i64) x17 p2) x1 x2 x3 x4 x5 x6 x7 x8 x9 x10 x11 x12 x13 x14 x15 x16 x17 x18 x19 x20 x21).bind fun y4 =>
        if y4.1 = true then
          some (p2, ())
        else
          L1 p1 (IntKind.i64.wrap (p2 + 1))
    else none
  else none
else
  some ((-1), ())
theorem b1_ok {r x1 x2 x3 x4 x5 x6 x7 x8 x9 x10 x11 x12 x13 x14 x15 x16 x17 x18 x19 x20 x21} {L1 : Int → Int → Option R} {m1 : Nat} (hL1 : ∀ p1 p2, L1 p1 p2 = some r → Gw P 11 (Q x1 x2 x3 x4 x5 x6 x7 x8 x9 x10 x11 x12 x13 x14 x15 x16 x17 x18 x19 x20 x21 r) (Pb c0 21 [] m1) (s1 x1 x2 x3 x4 x5 x6 x7 x8 x9 x10 x11 x12 x13 x14 x15 x16 x17 x18 x19 x20 x21 p1 p2)) {k p1 p2} (H : b1 x1 x2 x3 x4 x5 x6 x7 x8 x9 x10 x11 x12 x13 x14 x15 x16 x17 x18 x19 x20 x21 L1 k p1 p2 = some r) : Gw P 11 (Q x1 x2 x3 x4 x5 x6 x7 x8 x9 x10 x11 x12 x13 x14 x15 x16 x17 x18 x19 x20 x21 r) (Px c0 37 [m1]) (s1 x1 x2 x3 x4 x5 x6 x7 x8 x9 x10 x11 x12 x13 x14 x15 x16 x17 x18 x19 x20 x21 p1 p2) := by
  unfold b1 at H
  refine Rg V_ok 0 [] az ?_
  rcases of_ite H with ⟨hb1, H⟩ | ⟨hb1, H⟩
  · refine C1 hb1 ?_
    refine Rg V_ok 0 [] az ?_
    refine GT (tn [0, 1, 5, 7, 8] 11) (RI ?_)
    obtain ⟨n2, H⟩ := of_if H
    obtain ⟨n3, H⟩ := of_if H
    refine EV V_ok 0 [] 5 (ac n2 (ac n3 az)) ?_
    obtain ⟨y4, e5, H⟩ := of_bind H
    refine CL V_ok i_control_controller_is_1_db3.at_ (i_control_controller_is_1_db3.ok e5) ?_
    refine RN ?_
    rcases of_ite H with ⟨hb6, H⟩ | ⟨hb6, H⟩
    · refine C1 hb6 ?_
      refine Rg V_ok 0 [] az ?_
      obtain rfl := Option.some.inj H
      exact Lq (tn [4] 11)
    · refine C0 hb6 ?_
      refine Rg V_ok 0 [] az ?_
      exact Jm (tn [0, 1, 7, 8] 11) (hL1 p1 (IntKind.i64.wrap (p2 + 1)) H)
  · refine C0 hb1 ?_
    refine Rg V_ok 0 [] az ?_
    obtain rfl := Option.some.inj H
    exact Lq (tn [4] 11)
noncomputable def l1 (x1 : T26b3.T) (x2 x3 x4 x5 x6 x7 x8 x9 x10 x11 x12 x13 x14 x15 : Int) (x16 : List (List (List T1383.T))) (x17 : List Int) (x18 : List T23b6.T) (x19 : List T713d.T) (x20 x21 : List Int) (k : Nat) : Nat → Int → Int → Option R
  | 0, _, _ => none
  | m + 1, p1, p2 => b1 x1 x2 x3 x4 x5 x6 x7 x8 x9 x10 x11 x12 x13 x14 x15 x16 x17 x18 x19 x20 x21 (l1 x1 x2 x3 x4 x5 x6 x7 x8 x9 x10 x11 x12 x13 x14 x15 x16 x17 x18 x19 x20 x21 k m) k p1 p2
theorem l1_ok {r x1 x2 x3 x4 x5 x6 x7 x8 x9 x10 x11 x12 x13 x14 x15 x16 x17 x18 x19 x20 x21} (k : Nat) : ∀ (m1 : Nat) (p1 : Int) (p2 : Int), l1 x1 x2 x3 x4 x5 x6 x7 x8 x9 x10 x11 x12 x13 x14 x15 x16 x17 x18 x19 x20 x21 k m1 p1 p2 = some r → Gw P 11 (Q x1 x2 x3 x4 x5 x6 x7 x8 x9 x10 x11 x12 x13 x14 x15 x16 x17 x18 x19 x20 x21 r) (Pb c0 21 [] m1) (s1 x1 x2 x3 x4 x5 x6 x7 x8 x9 x10 x11 x12 x13 x14 x15 x16 x17 x18 x19 x20 x21 p1 p2)
  | 0, _, _, H => by cases H
  | m1 + 1, p1, p2, H => SU (by kernel_rfl) (b1_ok (l1_ok k m1) H)
noncomputable def f (k : Nat) (x1 : T26b3.T) (x2 x3 x4 x5 x6 x7 x8 x9 x10 x11 x12 x13 x14 x15 : Int) (x16 : List (List (List T1383.T))) (x17 : List Int) (x18 : List T23b6.T) (x19 : List T713d.T) (x20 x21 : List Int) : Option R :=
  l1 x1 x2 x3 x4 x5 x6 x7 x8 x9 x10 x11 x12 x13 x14 x15 x16 x17 x18 x19 x20 x21 k k (x17.length : Int) 0
theorem f_ok {r k x1 x2 x3 x4 x5 x6 x7 x8 x9 x10 x11 x12 x13 x14 x15 x16 x17 x18 x19 x20 x21} (H : f k x1 x2 x3 x4 x5 x6 x7 x8 x9 x10 x11 x12 x13 x14 x15 x16 x17 x18 x19 x20 x21 = some r) : Gw P 11 (Q x1 x2 x3 x4 x5 x6 x7 x8 x9 x10 x11 x12 x13 x14 x15 x16 x17 x18 x19 x20 x21 r) (Px c0 1 []) (s0 x1 x2 x3 x4 x5 x6 x7 x8 x9 x10 x11 x12 x13 x14 x15 x16 x17 x18 x19 x20 x21) := by
  unfold f at H
  refine Rg V_ok 0 [] az ?_
  refine Rg V_ok 0 [] az ?_
  exact LP k (Jm (tn [0, 1, 7, 8] 11) (l1_ok k k (x17.length : Int) 0 H))
theorem ok {r k x1 x2 x3 x4 x5 x6 x7 x8 x9 x10 x11 x12 x13 x14 x15 x16 x17 x18 x19 x20 x21} (H : f k x1 x2 x3 x4 x5 x6 x7 x8 x9 x10 x11 x12 x13 x14 x15 x16 x17 x18 x19 x20 x21 = some r) : W P 11 c0 (s0 x1 x2 x3 x4 x5 x6 x7 x8 x9 x10 x11 x12 x13 x14 x15 x16 x17 x18 x19 x20 x21) (CallQ 11 (out x1 x2 x3 x4 x5 x6 x7 x8 x9 x10 x11 x12 x13 x14 x15 x16 x17 x18 x19 x20 x21 r)) := of_G (f_ok H)
theorem at_ : FnAt P 88 19 c0 Go.Proofs.Tryd.f88.results := fnAt Go.Proofs.Tryd.func88 (by kernel_rfl) (by decide) (by kernel_rfl) (by kernel_rfl)
end i_slices_IndexFunc_int_336
/-! ### function 55, slices.ContainsFunc[[]int,int], where it is called -/

namespace i_slices_ContainsFunc_int_336
noncomputable def c0 : Code := (Go.Proofs.Tryd.f55.body).getD .skip
noncomputable def V : Env := { tt := tt, Γ := slk [] }
theorem V_ok : EnvOk P V := { ck := tt_ck, fits := slk_nil, mixed := mixed }
abbrev R := (Bool) × Unit
noncomputable def s0 (x1 : T26b3.T) (x2 x3 x4 x5 x6 x7 x8 x9 x10 x11 x12 x13 x14 x15 : Int) (x16 : List (List (List T1383.T))) (x17 : List Int) (x18 : List T23b6.T) (x19 : List T713d.T) (x20 x21 : List Int) : St := ⟨9, [(0, .cv (.one (.own 5))), (1, .cv (.one (.fn 53 [] [(10, 0)])))], [(.box 13, (encC .any T26b3 x1)), (.box 13, [.nils, .i x2, .i x3, .i x4, .i x5, .i x6, .i x7, .nils, .nils, .nils, .nils, .nils, .i x8]), (.box 6, [.fn 35 [] [], .fn 36 [] [], .fn 37 [] [], .fn 38 [] [], .fn 39 [] [], .fn 39 [] []]), (.box 13, [.own 4, .i x9, .i x10, .i x11, .i x12, .i x13, .i x14, .own 5, .own 6, .own 7, .own 8, .own 9, .i x15]), (.buf 64 (.slice (.slice T1383)) x16, []), (.buf 3 (.int .i64) x17, []), (.buf 50 T23b6 x18, []), (.buf 95 T713d x19, []), (.buf 3 (.int .i64) x20, []), (.buf 3 (.int .i64) x21, []), (.box 1, [.ptr 3 0])]⟩
noncomputable def out (x1 : T26b3.T) (x2 x3 x4 x5 x6 x7 x8 x9 x10 x11 x12 x13 x14 x15 : Int) (x16 : List (List (List T1383.T))) (x17 : List Int) (x18 : List T23b6.T) (x19 : List T713d.T) (x20 x21 : List Int) (r : R) : St := ⟨9, [(4, .cv (.one (.bool r.1)))], [(.box 13, (encC .any T26b3 x1)), (.box 13, [.nils, .i x2, .i x3, .i x4, .i x5, .i x6, .i x7, .nils, .nils, .nils, .nils, .nils, .i x8]), (.box 6, [.fn 35 [] [], .fn 36 [] [], .fn 37 [] [], .fn 38 [] [], .fn 39 [] [], .fn 39 [] []]), (.box 13, [.own 4, .i x9, .i x10, .i x11, .i x12, .i x13, .i x14, .own 5, .own 6, .own 7, .own 8, .own 9, .i x15]), (.buf 64 (.slice (.slice T1383)) x16, []), (.buf 3 (.int .i64) x17, []), (.buf 50 T23b6 x18, []), (.buf 95 T713d x19, []), (.buf 3 (.int .i64) x20, []), (.buf 3 (.int .i64) x21, []), (.box 1, [.ptr 3 0])]⟩
abbrev Q (x1 : T26b3.T) (x2 x3 x4 x5 x6 x7 x8 x9 x10 x11 x12 x13 x14 x15 : Int) (x16 : List (List (List T1383.T))) (x17 : List Int) (x18 : List T23b6.T) (x19 : List T713d.T) (x20 x21 : List Int) (r : R) := CallQ 11 (out x1 x2 x3 x4 x5 x6 x7 x8 x9 x10 x11 x12 x13 x14 x15 x16 x17 x18 x19 x20 x21 r)
noncomputable def f (k : Nat) (x1 : T26b3.T) (x2 x3 x4 x5 x6 x7 x8 x9 x10 x11 x12 x13 x14 x15 : Int) (x16 : List (List (List T1383.T))) (x17 : List Int) (x18 : List T23b6.T) (x19 : List T713d.T) (x20 x21 : List Int) : Option R :=
  (i_slices_IndexFunc_int_336.f k x1 x2 x3 x4 x5 x6 x7 x8 x9 x10 x11 x12 x13 x14 x15 x16 x17 x18 x19 x20 x21).bind fun y1 =>
    some ((decide (y1.1 ≥ (0 : Int))), ())
theorem f_ok {r k x1 x2 x3 x4 x5 x6 x7 x8 x9 x10 x11 x12 x13 x14 x15 x16 x17 x18 x19 x20 x21} (H : f k x1 x2 x3 x4 x5 x6 x7 x8 x9 x10 x11 x12 x13 x14 x15 x16 x17 x18 x19 x20 x21 = some r) : Gw P 11 (Q x1 x2 x3 x4 x5 x6 x7 x8 x9 x10 x11 x12 x13 x14 x15 x16 x17 x18 x19 x20 x21 r) (Px c0 1 []) (s0 x1 x2 x3 x4 x5 x6 x7 x8 x9 x10 x11 x12 x13 x14 x15 x16 x17 x18 x19 x20 x21) := by
  unfold f at H
  refine Rg V_ok 0 [] az ?_
  refine GT (tn [0, 1] 11) (RI ?_)
  refine EV V_ok 0 [] 2 az ?_
  obtain ⟨y1, e2, H⟩ := of_bind H
  refine CL V_ok i_slices_IndexFunc_int_336.at_ (i_slices_IndexFunc_int_336.ok e2) ?_
  refine EV V_ok 0 [] 2 az ?_
  refine RN ?_
  obtain rfl := Option.some.inj H
  exact Lq (tn [4] 11)
theorem ok {r k x1 x2 x3 x4 x5 x6 x7 x8 x9 x10 x11 x12 x13 x14 x15 x16 x17 x18 x19 x20 x21} (H : f k x1 x2 x3 x4 x5 x6 x7 x8 x9 x10 x11 x12 x13 x14 x15 x16 x17 x18 x19 x20 x21 = some r) : W P 11 c0 (s0 x1 x2 x3 x4 x5 x6 x7 x8 x9 x10 x11 x12 x13 x14 x15 x16 x17 x18 x19 x20 x21) (CallQ 11 (out x1 x2 x3 x4 x5 x6 x7 x8 x9 x10 x11 x12 x13 x14 x15 x16 x17 x18 x19 x20 x21 r)) := of_G (f_ok H)
theorem at_ : FnAt P 55 9 c0 Go.Proofs.Tryd.f55.results := fnAt Go.Proofs.Tryd.func55 (by kernel_rfl) (by decide) (by kernel_rfl) (by kernel_rfl)
end i_slices_ContainsFunc_int_336
/-! ### function 23, (*wayfinder/control.controller).is, where it is called -/

namespace i_control_controller_is_d8b
noncomputable def c0 : Code := (Go.Proofs.Tryd.f23.body).getD .skip
noncomputable def V : Env := { tt := tt, Γ := slk [] }
theorem V_ok : EnvOk P V := { ck := tt_ck, fits := slk_nil, mixed := mixed }
abbrev R := (Bool) × Unit
noncomputable def s0 (x1 : T26b3.T) (x2 x3 x4 x5 x6 x7 x8 x9 x10 x11 x12 x13 x14 x15 : Int) (x16 : List (List (List T1383.T))) (x17 : List Int) (x18 : List T23b6.T) (x19 : List T713d.T) (x20 x21 : List Int) : St := ⟨57, [(0, .cv (.one (.ptr 3 0)))], [(.box 13, (encC .any T26b3 x1)), (.box 13, [.nils, .i x2, .i x3, .i x4, .i x5, .i x6, .i x7, .nils, .nils, .nils, .nils, .nils, .i x8]), (.box 6, [.fn 35 [] [], .fn 36 [] [], .fn 37 [] [], .fn 38 [] [], .fn 39 [] [], .fn 39 [] []]), (.box 13, [.own 4, .i x9, .i x10, .i x11, .i x12, .i x13, .i x14, .own 5, .own 6, .own 7, .own 8, .own 9, .i x15]), (.buf 64 (.slice (.slice T1383)) x16, []), (.buf 3 (.int .i64) x17, []), (.buf 50 T23b6 x18, []), (.buf 95 T713d x19, []), (.buf 3 (.int .i64) x20, []), (.buf 3 (.int .i64) x21, [])]⟩
noncomputable def out (x1 : T26b3.T) (x2 x3 x4 x5 x6 x7 x8 x9 x10 x11 x12 x13 x14 x15 : Int) (x16 : List (List (List T1383.T))) (x17 : List Int) (x18 : List T23b6.T) (x19 : List T713d.T) (x20 x21 : List Int) (r : R) : St := ⟨57, [(2, .cv (.one (.bool r.1)))], [(.box 13, (encC .any T26b3 x1)), (.box 13, [.nils, .i x2, .i x3, .i x4, .i x5, .i x6, .i x7, .nils, .nils, .nils, .nils, .nils, .i x8]), (.box 6, [.fn 35 [] [], .fn 36 [] [], .fn 37 [] [], .fn 38 [] [], .fn 39 [] [], .fn 39 [] []]), (.box 13, [.own 4, .i x9, .i x10, .i x11, .i x12, .i x13, .i x14, .own 5, .own 6, .own 7, .own 8, .own 9, .i x15]), (.buf 64 (.slice (.slice T1383)) x16, []), (.buf 3 (.int .i64) x17, []), (.buf 50 T23b6 x18, []), (.buf 95 T713d x19, []), (.buf 3 (.int .i64) x20, []), (.buf 3 (.int .i64) x21, [])]⟩
abbrev Q (x1 : T26b3.T) (x2 x3 x4 x5 x6 x7 x8 x9 x10 x11 x12 x13 x14 x15 : Int) (x16 : List (List (List T1383.T))) (x17 : List Int) (x18 : List T23b6.T) (x19 : List T713d.T) (x20 x21 : List Int) (r : R) := CallQ 10 (out x1 x2 x3 x4 x5 x6 x7 x8 x9 x10 x11 x12 x13 x14 x15 x16 x17 x18 x19 x20 x21 r)
noncomputable def s1 (x1 : T26b3.T) (x2 x3 x4 x5 x6 x7 x8 x9 x10 x11 x12 x13 x14 x15 : Int) (x16 : List (List (List T1383.T))) (x17 : List Int) (x18 : List T23b6.T) (x19 : List T713d.T) (x20 x21 : List Int) (p1 : Bool) : St := ⟨57, [(1, .cv (.one (.ptr 10 0))), (3, .cv (.one (.fn 53 [] [(10, 0)]))), (4, .cv (.one (.bool p1)))], [(.box 13, (encC .any T26b3 x1)), (.box 13, [.nils, .i x2, .i x3, .i x4, .i x5, .i x6, .i x7, .nils, .nils, .nils, .nils, .nils, .i x8]), (.box 6, [.fn 35 [] [], .fn 36 [] [], .fn 37 [] [], .fn 38 [] [], .fn 39 [] [], .fn 39 [] []]), (.box 13, [.own 4, .i x9, .i x10, .i x11, .i x12, .i x13, .i x14, .own 5, .own 6, .own 7, .own 8, .own 9, .i x15]), (.buf 64 (.slice (.slice T1383)) x16, []), (.buf 3 (.int .i64) x17, []), (.buf 50 T23b6 x18, []), (.buf 95 T713d x19, []), (.buf 3 (.int .i64) x20, []), (.buf 3 (.int .i64) x21, []), (.box 1, [.ptr 3 0])]⟩
noncomputable def j1 (x1 : T26b3.T) (x2 x3 x4 x5 x6 x7 x8 x9 x10 x11 x12 x13 x14 x15 : Int) (x16 : List (List (List T1383.T))) (x17 : List Int) (x18 : List T23b6.T) (x19 : List T713d.T) (x20 x21 : List Int) (k : Nat) (p1 : Bool) : Option R :=
  if p1 = true then
  (i_control_controller_is_1_db3.f k x9 x1 x2 x3 x4 x5 x6 x7 x8 x9 x10 x11 x12 x13 x14 x15 x16 x17 x18 x19 x20 x21).bind fun y6 =>
    if (!y6.1) = true then
      (i_slices_ContainsFunc_int_336.f k x1 x2 x3 x4 x5 x6 x7 x8 x9 x10 x11 x12 x13 x14 x15 x16 x17 x18 x19 x20 x21).bind fun y9 =>
        if (!y9.1) = true then
          some ((decide ((x18.length : Int) ≤ (100 : Int))), ())
        else
          some (false, ())
    else
      some (false, ())
else
  some (false, ())
theorem j1_ok {r x1 x2 x3 x4 x5 x6 x7 x8 x9 x10 x11 x12 x13 x14 x15 x16 x17 x18 x19 x20 x21} {k p1} (H : j1 x1 x2 x3 x4 x5 x6 x7 x8 x9 x10 x11 x12 x13 x14 x15 x16 x17 x18 x19 x20 x21 k p1 = some r) : Gw P 10 (Q x1 x2 x3 x4 x5 x6 x7 x8 x9 x10 x11 x12 x13 x14 x15 x16 x17 x18 x19 x20 x21 r) (Px c0 15 []) (s1 x1 x2 x3 x4 x5 x6 x7 x8 x9 x10 x11 x12 x13 x14 x15 x16 x17 x18 x19 x20 x21 p1) := by
  unfold j1 at H
  refine GT (tn [1, 3, 4] 11) (RI ?_)
  refine EV V_ok 0 [] 2 az ?_
  rcases of_ite H with ⟨hb5, H⟩ | ⟨hb5, H⟩
  · refine FXO 28 hb5 ?_
    refine EV V_ok 0 [] 6 az ?_
    obtain ⟨y6, e7, H⟩ := of_bind H
    refine CL V_ok i_control_controller_is_1_db3.at_ (i_control_controller_is_1_db3.ok e7) ?_
    refine EV V_ok 0 [] 3 az ?_
    rcases of_ite H with ⟨hb8, H⟩ | ⟨hb8, H⟩
    · refine FXO 38 hb8 ?_
      refine EV V_ok 0 [] 6 az ?_
      obtain ⟨y9, e10, H⟩ := of_bind H
      refine CL V_ok i_slices_ContainsFunc_int_336.at_ (i_slices_ContainsFunc_int_336.ok e10) ?_
      refine EV V_ok 0 [] 3 az ?_
      rcases of_ite H with ⟨hb11, H⟩ | ⟨hb11, H⟩
      · refine FXO 48 hb11 ?_
        refine EV V_ok 0 [] 9 az ?_
        refine RN ?_
        obtain rfl := Option.some.inj H
        exact Lq (tn [2] 10)
      · refine FXO 48 hb11 ?_
        refine EV V_ok 0 [] 9 az ?_
        refine RN ?_
        obtain rfl := Option.some.inj H
        exact Lq (tn [2] 10)
    · refine FXO 38 hb8 ?_
      refine EV V_ok 0 [] 10 az ?_
      refine EV V_ok 0 [] 9 az ?_
      refine RN ?_
      obtain rfl := Option.some.inj H
      exact Lq (tn [2] 10)
  · refine FXO 28 hb5 ?_
    refine EV V_ok 0 [] 10 az ?_
    refine EV V_ok 0 [] 10 az ?_
    refine EV V_ok 0 [] 9 az ?_
    refine RN ?_
    obtain rfl := Option.some.inj H
    exact Lq (tn [2] 10)
noncomputable def f (k : Nat) (x1 : T26b3.T) (x2 x3 x4 x5 x6 x7 x8 x9 x10 x11 x12 x13 x14 x15 : Int) (x16 : List (List (List T1383.T))) (x17 : List Int) (x18 : List T23b6.T) (x19 : List T713d.T) (x20 x21 : List Int) : Option R :=
  if (x10 == (-1 : Int)) = true then
    (i_control_controller_two_ad0.f k x1 x2 x3 x4 x5 x6 x7 x8 x9 x10 x11 x12 x13 x14 x15 x16 x17 x18 x19 x20 x21).bind fun y2 =>
      if (!y2.1) = true then
        j1 x1 x2 x3 x4 x5 x6 x7 x8 x9 x10 x11 x12 x13 x14 x15 x16 x17 x18 x19 x20 x21 k true
      else
        (i_control_controller_is_1_db3.f k x10 x1 x2 x3 x4 x5 x6 x7 x8 x9 x10 x11 x12 x13 x14 x15 x16 x17 x18 x19 x20 x21).bind fun y12 =>
          j1 x1 x2 x3 x4 x5 x6 x7 x8 x9 x10 x11 x12 x13 x14 x15 x16 x17 x18 x19 x20 x21 k (!y12.1)
  else
    (i_control_controller_is_1_db3.f k x10 x1 x2 x3 x4 x5 x6 x7 x8 x9 x10 x11 x12 x13 x14 x15 x16 x17 x18 x19 x20 x21).bind fun y14 =>
      j1 x1 x2 x3 x4 x5 x6 x7 x8 x9 x10 x11 x12 x13 x14 x15 x16 x17 x18 x19 x20 x21 k (!y14.1)
theorem f_ok {r k x1 x2 x3 x4 x5 x6 x7 x8 x9 x10 x11 x12 x13 x14 x15 x16 x17 x18 x19 x20 x21} (H : f k x1 x2 x3 x4 x5 x6 x7 x8 x9 x10 x11 x12 x13 x14 x15 x16 x17 x18 x19 x20 x21 = some r) : Gw P 10 (Q x1 x2 x3 x4 x5 x6 x7 x8 x9 x10 x11 x12 x13 x14 x15 x16 x17 x18 x19 x20 x21 r) (Px c0 1 []) (s0 x1 x2 x3 x4 x5 x6 x7 x8 x9 x10 x11 x12 x13 x14 x15 x16 x17 x18 x19 x20 x21) := by
  unfold f at H
  refine Rg V_ok 1 [(0, hb 10)] az ?_
  refine Rg V_ok 0 [] az ?_
  refine GT (tn [1, 3] 11) (RI ?_)
  refine EV V_ok 0 [] 7 az ?_
  rcases of_ite H with ⟨hb1, H⟩ | ⟨hb1, H⟩
  · refine FXO 12 hb1 ?_
    refine EV V_ok 0 [] 1 az ?_
    obtain ⟨y2, e3, H⟩ := of_bind H
    refine CL V_ok i_control_controller_two_ad0.at_ (i_control_controller_two_ad0.ok e3) ?_
    refine EV V_ok 0 [] 3 az ?_
    rcases of_ite H with ⟨hb4, H⟩ | ⟨hb4, H⟩
    · refine FXO 17 hb4 ?_
      refine EV V_ok 0 [] 10 az ?_
      refine RN ?_
      exact Jm (tn [1, 3, 4] 11) (j1_ok H)
    · refine FXO 17 hb4 ?_
      refine EV V_ok 0 [] 6 az ?_
      obtain ⟨y12, e13, H⟩ := of_bind H
      refine CL V_ok i_control_controller_is_1_db3.at_ (i_control_controller_is_1_db3.ok e13) ?_
      refine EV V_ok 0 [] 3 az ?_
      refine RN ?_
      exact Jm (tn [1, 3, 4] 11) (j1_ok H)
  · refine FXO 12 hb1 ?_
    refine EV V_ok 0 [] 5 az ?_
    refine EV V_ok 0 [] 6 az ?_
    obtain ⟨y14, e15, H⟩ := of_bind H
    refine CL V_ok i_control_controller_is_1_db3.at_ (i_control_controller_is_1_db3.ok e15) ?_
    refine EV V_ok 0 [] 3 az ?_
    refine RN ?_
    exact Jm (tn [1, 3, 4] 11) (j1_ok H)
theorem ok {r k x1 x2 x3 x4 x5 x6 x7 x8 x9 x10 x11 x12 x13 x14 x15 x16 x17 x18 x19 x20 x21} (H : f k x1 x2 x3 x4 x5 x6 x7 x8 x9 x10 x11 x12 x13 x14 x15 x16 x17 x18 x19 x20 x21 = some r) : W P 10 c0 (s0 x1 x2 x3 x4 x5 x6 x7 x8 x9 x10 x11 x12 x13 x14 x15 x16 x17 x18 x19 x20 x21) (CallQ 10 (out x1 x2 x3 x4 x5 x6 x7 x8 x9 x10 x11 x12 x13 x14 x15 x16 x17 x18 x19 x20 x21 r)) := of_G (f_ok H)
theorem at_ : FnAt P 23 57 c0 Go.Proofs.Tryd.f23.results := fnAt Go.Proofs.Tryd.func23 (by kernel_rfl) (by decide) (by kernel_rfl) (by kernel_rfl)
end i_control_controller_is_d8b
/-! ### function 76, (*wayfinder/control.controller).idle$1, where it is called -/

namespace i_control_controller_idle_1_0c7
noncomputable def c0 : Code := (Go.Proofs.Tryd.f76.body).getD .skip
noncomputable def V : Env := { tt := tt, Γ := slk [(56, f_conf_At.S), (77, f_plan_Adds.S)] }
theorem V_ok : EnvOk P V := { ck := tt_ck, fits := slk_cons f_conf_At.fits (slk_cons f_plan_Adds.fits (slk_nil)), mixed := mixed }
abbrev R := (List T4414.T) × Unit
noncomputable def s0 (x1 : Int) (x2 : T26b3.T) (x3 x4 x5 x6 x7 x8 x9 x10 x11 x12 x13 x14 x15 : Int) (x16 : List Int) (x17 : Int) (x18 : List (List (List T1383.T))) (x19 : List T23b6.T) (x20 x21 : List Int) (x22 : List T713d.T) : St := ⟨24, [(0, .cv (.one (.i x1))), (1, .cv (.one (.ptr 10 0)))], [(.box 13, (encC .any T26b3 x2)), (.box 13, [.nils, .i x3, .i x4, .i x5, .i x6, .i x7, .i x8, .nils, .nils, .nils, .nils, .nils, .i x9]), (.box 6, [.fn 35 [] [], .fn 36 [] [], .fn 37 [] [], .fn 38 [] [], .fn 39 [] [], .fn 39 [] []]), (.box 13, [.own 4, .i x10, .i x11, .i x12, .i x13, .i x14, .i x15, .sl (.int .i64) x16 .any, .own 6, .own 11, .own 8, .own 9, .i x17]), (.buf 64 (.slice (.slice T1383)) x18, []), (.dead, []), (.buf 50 T23b6 x19, []), (.dead, []), (.buf 3 (.int .i64) x20, []), (.buf 3 (.int .i64) x21, []), (.box 1, [.ptr 3 0]), (.buf 95 T713d x22, [])]⟩
noncomputable def out (x2 : T26b3.T) (x3 x4 x5 x6 x7 x8 x9 x10 x11 x12 x13 x14 x15 : Int) (x16 : List Int) (x17 : Int) (x18 : List (List (List T1383.T))) (x19 : List T23b6.T) (x20 x21 : List Int) (x22 : List T713d.T) (r : R) : St := ⟨24, [(3, .cv (.one (.sl T4414 r.1 .any)))], [(.box 13, (encC .any T26b3 x2)), (.box 13, [.nils, .i x3, .i x4, .i x5, .i x6, .i x7, .i x8, .nils, .nils, .nils, .nils, .nils, .i x9]), (.box 6, [.fn 35 [] [], .fn 36 [] [], .fn 37 [] [], .fn 38 [] [], .fn 39 [] [], .fn 39 [] []]), (.box 13, [.own 4, .i x10, .i x11, .i x12, .i x13, .i x14, .i x15, .sl (.int .i64) x16 .any, .own 6, .own 11, .own 8, .own 9, .i x17]), (.buf 64 (.slice (.slice T1383)) x18, []), (.dead, []), (.buf 50 T23b6 x19, []), (.dead, []), (.buf 3 (.int .i64) x20, []), (.buf 3 (.int .i64) x21, []), (.box 1, [.ptr 3 0]), (.buf 95 T713d x22, [])]⟩
abbrev Q (x2 : T26b3.T) (x3 x4 x5 x6 x7 x8 x9 x10 x11 x12 x13 x14 x15 : Int) (x16 : List Int) (x17 : Int) (x18 : List (List (List T1383.T))) (x19 : List T23b6.T) (x20 x21 : List Int) (x22 : List T713d.T) (r : R) := CallQ 12 (out x2 x3 x4 x5 x6 x7 x8 x9 x10 x11 x12 x13 x14 x15 x16 x17 x18 x19 x20 x21 x22 r)
noncomputable def f (k : Nat) (x1 : Int) (x2 : T26b3.T) (x3 x4 x5 x6 x7 x8 x9 x10 x11 x12 x13 x14 x15 : Int) (x16 : List Int) (x17 : Int) (x18 : List (List (List T1383.T))) (x19 : List T23b6.T) (x20 x21 : List Int) (x22 : List T713d.T) : Option R :=
  if 0 ≤ x11 then
    if x11 < (x18.length : Int) then
      (f_conf_At.f k (att (.slice (.slice T1383)) x18 x11) x1).bind fun y1 =>
        (f_plan_Adds.f k x13 y1.1).bind fun y2 =>
          some (y2.1, ())
    else none
  else none
theorem f_ok {r k x1 x2 x3 x4 x5 x6 x7 x8 x9 x10 x11 x12 x13 x14 x15 x16 x17 x18 x19 x20 x21 x22} (H : f k x1 x2 x3 x4 x5 x6 x7 x8 x9 x10 x11 x12 x13 x14 x15 x16 x17 x18 x19 x20 x21 x22 = some r) : Gw P 12 (Q x2 x3 x4 x5 x6 x7 x8 x9 x10 x11 x12 x13 x14 x15 x16 x17 x18 x19 x20 x21 x22 r) (Px c0 1 []) (s0 x1 x2 x3 x4 x5 x6 x7 x8 x9 x10 x11 x12 x13 x14 x15 x16 x17 x18 x19 x20 x21 x22) := by
  unfold f at H
  refine Rg V_ok 0 [] az ?_
  obtain ⟨n3, H⟩ := of_if H
  obtain ⟨n4, H⟩ := of_if H
  obtain ⟨y1, e5, H⟩ := of_bind H
  obtain ⟨y2, e6, H⟩ := of_bind H
  refine Rg V_ok 0 [(18, hr f_conf_At.S y1), (19, hr f_plan_Adds.S y2)] (ac n3 (ac n4 (ac (f_conf_At.rl e5) (ac (f_plan_Adds.rl e6) az)))) ?_
  obtain rfl := Option.some.inj H
  exact Lq (tn [3] 12)
theorem ok {r k x1 x2 x3 x4 x5 x6 x7 x8 x9 x10 x11 x12 x13 x14 x15 x16 x17 x18 x19 x20 x21 x22} (H : f k x1 x2 x3 x4 x5 x6 x7 x8 x9 x10 x11 x12 x13 x14 x15 x16 x17 x18 x19 x20 x21 x22 = some r) : W P 12 c0 (s0 x1 x2 x3 x4 x5 x6 x7 x8 x9 x10 x11 x12 x13 x14 x15 x16 x17 x18 x19 x20 x21 x22) (CallQ 12 (out x2 x3 x4 x5 x6 x7 x8 x9 x10 x11 x12 x13 x14 x15 x16 x17 x18 x19 x20 x21 x22 r)) := of_G (f_ok H)
theorem at_ : FnAt P 76 24 c0 Go.Proofs.Tryd.f76.results := fnAt Go.Proofs.Tryd.func76 (by kernel_rfl) (by decide) (by kernel_rfl) (by kernel_rfl)
end i_control_controller_idle_1_0c7
/-! ### function 75, (*wayfinder/control.controller).tell, where it is called -/

namespace i_control_controller_tell_107
noncomputable def c0 : Code := (Go.Proofs.Tryd.f75.body).getD .skip
noncomputable def V : Env := { tt := tt, Γ := slk [(67, f_plan_Push.S)] }
theorem V_ok : EnvOk P V := { ck := tt_ck, fits := slk_cons f_plan_Push.fits (slk_nil), mixed := mixed }
abbrev R := (List T23b6.T) × Unit
noncomputable def s0 (x1 : T26b3.T) (x2 x3 x4 x5 x6 x7 x8 x9 x10 x11 x12 x13 x14 : Int) (x15 : List Int) (x16 : Int) (x17 : List (List (List T1383.T))) (x18 : List T23b6.T) (x19 x20 : List Int) (x21 : List T713d.T) : St := ⟨36, [(0, .cv (.one (.ptr 3 0))), (1, .cv (.one (.fn 76 [] [(10, 0)])))], [(.box 13, (encC .any T26b3 x1)), (.box 13, [.nils, .i x2, .i x3, .i x4, .i x5, .i x6, .i x7, .nils, .nils, .nils, .nils, .nils, .i x8]), (.box 6, [.fn 35 [] [], .fn 36 [] [], .fn 37 [] [], .fn 38 [] [], .fn 39 [] [], .fn 39 [] []]), (.box 13, [.own 4, .i x9, .i x10, .i x11, .i x12, .i x13, .i x14, .sl (.int .i64) x15 .any, .own 6, .own 11, .own 8, .own 9, .i x16]), (.buf 64 (.slice (.slice T1383)) x17, []), (.dead, []), (.buf 50 T23b6 x18, []), (.dead, []), (.buf 3 (.int .i64) x19, []), (.buf 3 (.int .i64) x20, []), (.box 1, [.ptr 3 0]), (.buf 95 T713d x21, [])]⟩
noncomputable def out (x1 : T26b3.T) (x2 x3 x4 x5 x6 x7 x8 x9 x10 x11 x12 x13 x14 : Int) (x15 : List Int) (x16 : Int) (x17 : List (List (List T1383.T))) (x19 x20 : List Int) (x21 : List T713d.T) (r : R) : St := ⟨36, [], [(.box 13, (encC .any T26b3 x1)), (.box 13, [.nils, .i x2, .i x3, .i x4, .i x5, .i x6, .i x7, .nils, .nils, .nils, .nils, .nils, .i x8]), (.box 6, [.fn 35 [] [], .fn 36 [] [], .fn 37 [] [], .fn 38 [] [], .fn 39 [] [], .fn 39 [] []]), (.box 13, [.own 4, .i x9, .i x10, .i x11, .i x12, .i x13, .i x14, .sl (.int .i64) x15 .any, .own 6, .own 11, .own 8, .own 9, .i x16]), (.buf 64 (.slice (.slice T1383)) x17, []), (.dead, []), (.buf 50 T23b6 r.1, []), (.dead, []), (.buf 3 (.int .i64) x19, []), (.buf 3 (.int .i64) x20, []), (.box 1, [.ptr 3 0]), (.buf 95 T713d x21, [])]⟩
abbrev Q (x1 : T26b3.T) (x2 x3 x4 x5 x6 x7 x8 x9 x10 x11 x12 x13 x14 : Int) (x15 : List Int) (x16 : Int) (x17 : List (List (List T1383.T))) (x19 x20 : List Int) (x21 : List T713d.T) (r : R) := CallQ 12 (out x1 x2 x3 x4 x5 x6 x7 x8 x9 x10 x11 x12 x13 x14 x15 x16 x17 x19 x20 x21 r)
noncomputable def s1 (x1 : T26b3.T) (x2 x3 x4 x5 x6 x7 x8 x9 x10 x11 x12 x13 x14 : Int) (x15 : List Int) (x16 : Int) (x17 : List (List (List T1383.T))) (x19 x20 : List Int) (x21 : List T713d.T) (p1 p2 : Int) (p20 : List T23b6.T) : St := ⟨36, [(0, .cv (.one (.ptr 3 0))), (1, .cv (.one (.fn 76 [] [(10, 0)]))), (10, .cv (.one (.i p1))), (11, .cv (.one (.i p2)))], [(.box 13, (encC .any T26b3 x1)), (.box 13, [.nils, .i x2, .i x3, .i x4, .i x5, .i x6, .i x7, .nils, .nils, .nils, .nils, .nils, .i x8]), (.box 6, [.fn 35 [] [], .fn 36 [] [], .fn 37 [] [], .fn 38 [] [], .fn 39 [] [], .fn 39 [] []]), (.box 13, [.own 4, .i x9, .i x10, .i x11, .i x12, .i x13, .i x14, .sl (.int .i64) x15 .any, .own 6, .own 11, .own 8, .own 9, .i x16]), (.buf 64 (.slice (.slice T1383)) x17, []), (.dead, []), (.buf 50 T23b6 p20, []), (.dead, []), (.buf 3 (.int .i64) x19, []), (.buf 3 (.int .i64) x20, []), (.box 1, [.ptr 3 0]), (.buf 95 T713d x21, [])]⟩
noncomputable def b1 (x1 : T26b3.T) (x2 x3 x4 x5 x6 x7 x8 x9 x10 x11 x12 x13 x14 : Int) (x15 : List Int) (x16 : Int) (x17 : List (List (List T1383.T))) (x19 x20 : List Int) (x21 : List T713d.T) (L1 : Int → Int → List T23b6.T → Option R) (k : Nat) (p1 p2 : Int) (p20 : List T23b6.T) : Option R :=
  if (decide (p2 < p1)) = true then
  if 0 ≤ p2 then
    if p2 < (p20.length : Int) then
      (i_control_controller_idle_1_0c7.f k p2 x1 x2 x3 x4 x5 x6 x7 x8 x9 x10 x11 x12 x13 x14 x15 x16 x17 p20 x19 x20 x21).bind fun y4 =>
        (f_plan_Push.f k (((att T23b6 p20 p2).2).2) y4.1).bind fun y6 =>
            L1 p1 (IntKind.i64.wrap (p2 + 1)) (p20.set p2.toNat ((att T23b6 p20 p2).1, (((att T23b6 p20 p2).2).1, y6.1)))
    else none
  else none
else
  some (p20, ())
theorem b1_ok {r x1 x2 x3 x4 x5 x6 x7 x8 x9 x10 x11 x12 x13 x14 x15 x16 x17 x19 x20 x21} {L1 : Int → Int → List T23b6.T → Option R} {m1 : Nat} (hL1 : ∀ p1 p2 p20, L1 p1 p2 p20 = some r → Gw P 12 (Q x1 x2 x3 x4 x5 x6 x7 x8 x9 x10 x11 x12 x13 x14 x15 x16 x17 x19 x20 x21 r) (Pb c0 5 [] m1) (s1 x1 x2 x3 x4 x5 x6 x7 x8 x9 x10 x11 x12 x13 x14 x15 x16 x17 x19 x20 x21 p1 p2 p20)) {k p1 p2 p20} (H : b1 x1 x2 x3 x4 x5 x6 x7 x8 x9 x10 x11 x12 x13 x14 x15 x16 x17 x19 x20 x21 L1 k p1 p2 p20 = some r) : Gw P 12 (Q x1 x2 x3 x4 x5 x6 x7 x8 x9 x10 x11 x12 x13 x14 x15 x16 x17 x19 x20 x21 r) (Px c0 9 [m1]) (s1 x1 x2 x3 x4 x5 x6 x7 x8 x9 x10 x11 x12 x13 x14 x15 x16 x17 x19 x20 x21 p1 p2 p20) := by
  unfold b1 at H
  refine Rg V_ok 0 [] az ?_
  rcases of_ite H with ⟨hb1, H⟩ | ⟨hb1, H⟩
  · refine C1 hb1 ?_
    refine Rg V_ok 0 [] az ?_
    obtain ⟨n2, H⟩ := of_if H
    obtain ⟨n3, H⟩ := of_if H
    obtain ⟨y4, e5, H⟩ := of_bind H
    obtain ⟨y6, e7, H⟩ := of_bind H
    let x : Nx := (Px c0 409 [m1])
    let t0 : St := ⟨36, [(0, .cv (.one (.ptr 3 0))), (1, .cv (.one (.fn 76 [] [(10, 0)]))), (4, .cv (.one (.i p2))), (10, .cv (.one (.i p1))), (11, .cv (.one (.i p2)))], [(.box 13, (encC .any T26b3 x1)), (.box 13, [.nils, .i x2, .i x3, .i x4, .i x5, .i x6, .i x7, .nils, .nils, .nils, .nils, .nils, .i x8]), (.box 6, [.fn 35 [] [], .fn 36 [] [], .fn 37 [] [], .fn 38 [] [], .fn 39 [] [], .fn 39 [] []]), (.box 13, [.own 4, .i x9, .i x10, .i x11, .i x12, .i x13, .i x14, .sl (.int .i64) x15 .any, .own 6, .own 11, .own 8, .own 9, .i x16]), (.buf 64 (.slice (.slice T1383)) x17, []), (.dead, []), (.buf 50 T23b6 p20, []), (.dead, []), (.buf 3 (.int .i64) x19, []), (.buf 3 (.int .i64) x20, []), (.box 1, [.ptr 3 0]), (.buf 95 T713d x21, [])]⟩
    refine Jm (x' := x) (τ := t0) (tn [0, 1, 4, 10, 11] 12) ?_
    let Φ := phiX P 12 (Q x1 x2 x3 x4 x5 x6 x7 x8 x9 x10 x11 x12 x13 x14 x15 x16 x17 x19 x20 x21 r) x
    let t1 : St := stpS V x 0 [] 0 (tn [0, 1, 4, 10, 11, 14] 12) t0
    let t2 : St := stpS V x 0 [] 1 (tn [0, 1, 4, 10, 11, 15] 12) t1
    let t3 : St := stpS V x 0 [] 2 (tn [0, 1, 4, 10, 11, 16] 12) t2
    let t4 : St := stpS V x 0 [] 3 (tn [0, 1, 4, 10, 11, 17] 12) t3
    let t5 : St := stpS V x 0 [] 5 (tn [0, 1, 4, 10, 11, 17, 19] 12) t4
    let t6 : St := stpS V x 0 [] 6 (tn [0, 1, 4, 10, 11, 17, 19, 20] 12) t5
    let t7 : St := stpS V x 0 [] 7 (tn [0, 1, 4, 10, 11, 17, 19, 21] 12) t6
    let t8 : St := stpS V x 0 [] 8 (tn [0, 1, 4, 10, 11, 17, 19, 22] 12) t7
    let t9 : St := stpS V x 0 [] 9 (tn [0, 1, 4, 10, 11, 17, 19, 23] 12) t8
    let t10 : St := stpS V x 0 [] 11 (tn [0, 1, 4, 10, 11, 17, 19, 23, 25] 12) t9
    let t11 : St := stpS V x 0 [] 15 (tn [0, 1, 4, 10, 11, 17, 19, 23, 25, 29] 12) t10
    let t12 : St := stpS V x 0 [] 16 (tn [0, 1, 10, 11, 17, 19, 23, 25, 29, 30] 12) t11
    let t13 : St := stpS V x 0 [] 4 (tn [0, 1, 10, 11, 18, 19, 23, 25, 29, 30] 12) t12
    let t14 : St := stpS V x 0 [] 10 (tn [0, 1, 10, 11, 17, 19, 24, 25, 29, 30] 12) t12
    let t15 : St := clT V.tt x 17 Go.Proofs.Tryd.f76.results (tn [0, 1, 10, 11, 17, 19, 23, 25, 31] 12) t12 (i_control_controller_idle_1_0c7.out x1 x2 x3 x4 x5 x6 x7 x8 x9 x10 x11 x12 x13 x14 x15 x16 x17 p20 x19 x20 x21 y4)
    let t16 : St := stpS V x 0 [] 10 (tn [0, 1, 10, 11, 18, 19, 24, 25, 29, 30] 12) t13
    let t17 : St := clT V.tt x 17 Go.Proofs.Tryd.f76.results (tn [0, 1, 10, 11, 18, 19, 23, 25, 31] 12) t13 (i_control_controller_idle_1_0c7.out x1 x2 x3 x4 x5 x6 x7 x8 x9 x10 x11 x12 x13 x14 x15 x16 x17 p20 x19 x20 x21 y4)
    let t18 : St := stpS V x 0 [] 12 (tn [0, 1, 10, 11, 17, 19, 26, 29, 30] 12) t14
    let t19 : St := clT V.tt x 17 Go.Proofs.Tryd.f76.results (tn [0, 1, 10, 11, 17, 19, 24, 25, 31] 12) t14 (i_control_controller_idle_1_0c7.out x1 x2 x3 x4 x5 x6 x7 x8 x9 x10 x11 x12 x13 x14 x15 x16 x17 p20 x19 x20 x21 y4)
    let t20 : St := stpS V x 0 [] 12 (tn [0, 1, 10, 11, 18, 19, 26, 29, 30] 12) t16
    let t21 : St := clT V.tt x 17 Go.Proofs.Tryd.f76.results (tn [0, 1, 10, 11, 18, 19, 24, 25, 31] 12) t16 (i_control_controller_idle_1_0c7.out x1 x2 x3 x4 x5 x6 x7 x8 x9 x10 x11 x12 x13 x14 x15 x16 x17 p20 x19 x20 x21 y4)
    let t22 : St := stpS V x 0 [] 13 (tn [0, 1, 10, 11, 17, 19, 27, 29, 30] 12) t18
    let t23 : St := stpS V x 0 [] 12 (tn [0, 1, 10, 11, 17, 19, 26, 31] 12) t19
    let t24 : St := stpS V x 0 [] 13 (tn [0, 1, 10, 11, 18, 19, 27, 29, 30] 12) t20
    let t25 : St := stpS V x 0 [] 12 (tn [0, 1, 10, 11, 18, 19, 26, 31] 12) t21
    let t26 : St := stpS V x 0 [] 14 (tn [0, 1, 10, 11, 17, 19, 28, 29, 30] 12) t22
    let t27 : St := clT V.tt x 17 Go.Proofs.Tryd.f76.results (tn [0, 1, 10, 11, 17, 19, 27, 31] 12) t22 (i_control_controller_idle_1_0c7.out x1 x2 x3 x4 x5 x6 x7 x8 x9 x10 x11 x12 x13 x14 x15 x16 x17 p20 x19 x20 x21 y4)
    let t28 : St := stpS V x 0 [] 14 (tn [0, 1, 10, 11, 18, 19, 28, 29, 30] 12) t24
    let t29 : St := clT V.tt x 17 Go.Proofs.Tryd.f76.results (tn [0, 1, 10, 11, 18, 19, 27, 31] 12) t24 (i_control_controller_idle_1_0c7.out x1 x2 x3 x4 x5 x6 x7 x8 x9 x10 x11 x12 x13 x14 x15 x16 x17 p20 x19 x20 x21 y4)
    let t30 : St := clT V.tt x 17 Go.Proofs.Tryd.f76.results (tn [0, 1, 10, 11, 17, 19, 28, 31] 12) t26 (i_control_controller_idle_1_0c7.out x1 x2 x3 x4 x5 x6 x7 x8 x9 x10 x11 x12 x13 x14 x15 x16 x17 p20 x19 x20 x21 y4)
    let t31 : St := clT V.tt x 17 Go.Proofs.Tryd.f76.results (tn [0, 1, 10, 11, 18, 19, 28, 31] 12) t28 (i_control_controller_idle_1_0c7.out x1 x2 x3 x4 x5 x6 x7 x8 x9 x10 x11 x12 x13 x14 x15 x16 x17 p20 x19 x20 x21 y4)
    let t32 : St := stpS V x 0 [(18, hr f_plan_Push.S y6)] 18 (tn [0, 1, 10, 11, 17, 19, 32] 12) t30
    let t33 : St := stpS V x 0 [(18, hr f_plan_Push.S y6)] 18 (tn [0, 1, 10, 11, 18, 19, 32] 12) t31
    let t34 : St := stpS V x 0 [] 19 (tn [0, 1, 10, 11, 32, 33] 12) t33
    let t35 : St := stpS V x 0 [] 20 (tn [0, 1, 10, 11, 32, 34] 12) t34
    let t36 : St := stpS V x 0 [] 21 (tn [0, 1, 10, 11] 12) t35
    have w36 : WA P 12 (opsX x) 0 (bs 22 4194303) Φ t36 := by
      refine WA_nil (by kernel_rfl) (RAn (by kernel_rfl) ?_)
      refine Rg V_ok 0 [] az ?_
      exact Jm (tn [0, 1, 10, 11] 12) (hL1 p1 (IntKind.i64.wrap (p2 + 1)) (p20.set p2.toNat ((att T23b6 p20 p2).1, (((att T23b6 p20 p2).2).1, y6.1))) H)
    have w35 : WA P 12 (opsX x) 1 (bs 22 2097151) Φ t35 := WAs (an (WE V_ok 0 [] 21 (tn [0, 1, 10, 11] 12) az w36) aN)
    have w34 : WA P 12 (opsX x) 2 (bs 22 1048575) Φ t34 := WT V_ok [] 20 (tn [0, 1, 10, 11, 32, 34] 12) az w35
    have w33 : WA P 12 (opsX x) 3 (bs 22 524287) Φ t33 := WAs (an (WE V_ok 0 [] 19 (tn [0, 1, 10, 11, 32, 33] 12) (ac n2 (ac n3 az)) w34) aN)
    have w32 : WA P 12 (opsX x) 4 (bs 22 524271) Φ t32 := WAs (an (WE V_ok 0 [] 4 (tn [0, 1, 10, 11, 18, 19, 32] 12) az w33) aN)
    have w31 : WA P 12 (opsX x) 4 (bs 22 262143) Φ t31 := WAs (an (WE V_ok 0 [(18, hr f_plan_Push.S y6)] 18 (tn [0, 1, 10, 11, 18, 19, 32] 12) (ac (f_plan_Push.rl e7) az) w33) aN)
    have w30 : WA P 12 (opsX x) 5 (bs 22 262127) Φ t30 := WAs (an (WE V_ok 0 [] 4 (tn [0, 1, 10, 11, 18, 19, 28, 31] 12) az w31) (an (WE V_ok 0 [(18, hr f_plan_Push.S y6)] 18 (tn [0, 1, 10, 11, 17, 19, 32] 12) (ac (f_plan_Push.rl e7) az) w32) aN))
    have w29 : WA P 12 (opsX x) 5 (bs 22 245759) Φ t29 := WAs (an (WE V_ok 0 [] 14 (tn [0, 1, 10, 11, 18, 19, 28, 31] 12) az w31) aN)
    have w28 : WA P 12 (opsX x) 5 (bs 22 131071) Φ t28 := WAs (an (WC V_ok 17 (tn [0, 1, 10, 11, 18, 19, 28, 31] 12) i_control_controller_idle_1_0c7.at_ (i_control_controller_idle_1_0c7.ok e5) w31) aN)
    have w27 : WA P 12 (opsX x) 6 (bs 22 245743) Φ t27 := WAs (an (WE V_ok 0 [] 4 (tn [0, 1, 10, 11, 18, 19, 27, 31] 12) az w29) (an (WE V_ok 0 [] 14 (tn [0, 1, 10, 11, 17, 19, 28, 31] 12) az w30) aN))
    have w26 : WA P 12 (opsX x) 6 (bs 22 131055) Φ t26 := WAs (an (WE V_ok 0 [] 4 (tn [0, 1, 10, 11, 18, 19, 28, 29, 30] 12) az w28) (an (WC V_ok 17 (tn [0, 1, 10, 11, 17, 19, 28, 31] 12) i_control_controller_idle_1_0c7.at_ (i_control_controller_idle_1_0c7.ok e5) w30) aN))
    have w25 : WA P 12 (opsX x) 6 (bs 22 237567) Φ t25 := WT V_ok [] 13 (tn [0, 1, 10, 11, 18, 19, 27, 31] 12) az w29
    have w24 : WA P 12 (opsX x) 6 (bs 22 114687) Φ t24 := WAs (an (WE V_ok 0 [] 14 (tn [0, 1, 10, 11, 18, 19, 28, 29, 30] 12) az w28) (an (WC V_ok 17 (tn [0, 1, 10, 11, 18, 19, 27, 31] 12) i_control_controller_idle_1_0c7.at_ (i_control_controller_idle_1_0c7.ok e5) w29) aN))
    have w23 : WA P 12 (opsX x) 7 (bs 22 237551) Φ t23 := WT V_ok [] 13 (tn [0, 1, 10, 11, 17, 19, 27, 31] 12) az w27
    have w22 : WA P 12 (opsX x) 7 (bs 22 114671) Φ t22 := WAs (an (WE V_ok 0 [] 4 (tn [0, 1, 10, 11, 18, 19, 27, 29, 30] 12) az w24) (an (WE V_ok 0 [] 14 (tn [0, 1, 10, 11, 17, 19, 28, 29, 30] 12) az w26) (an (WC V_ok 17 (tn [0, 1, 10, 11, 17, 19, 27, 31] 12) i_control_controller_idle_1_0c7.at_ (i_control_controller_idle_1_0c7.ok e5) w27) aN)))
    have w21 : WA P 12 (opsX x) 7 (bs 22 233471) Φ t21 := WAs (an (WE V_ok 0 [] 12 (tn [0, 1, 10, 11, 18, 19, 26, 31] 12) (ac n2 (ac n3 az)) w25) aN)
    have w20 : WA P 12 (opsX x) 7 (bs 22 106495) Φ t20 := WT V_ok [] 13 (tn [0, 1, 10, 11, 18, 19, 27, 29, 30] 12) az w24
    have w19 : WA P 12 (opsX x) 8 (bs 22 233455) Φ t19 := WAs (an (WE V_ok 0 [] 4 (tn [0, 1, 10, 11, 18, 19, 24, 25, 31] 12) az w21) (an (WE V_ok 0 [] 12 (tn [0, 1, 10, 11, 17, 19, 26, 31] 12) (ac n2 (ac n3 az)) w23) aN))
    have w18 : WA P 12 (opsX x) 8 (bs 22 106479) Φ t18 := WT V_ok [] 13 (tn [0, 1, 10, 11, 17, 19, 27, 29, 30] 12) az w22
    have w17 : WA P 12 (opsX x) 8 (bs 22 232447) Φ t17 := WAs (an (WE V_ok 0 [] 10 (tn [0, 1, 10, 11, 18, 19, 24, 25, 31] 12) az w21) aN)
    have w16 : WA P 12 (opsX x) 8 (bs 22 102399) Φ t16 := WAs (an (WE V_ok 0 [] 12 (tn [0, 1, 10, 11, 18, 19, 26, 29, 30] 12) (ac n2 (ac n3 az)) w20) (an (WC V_ok 17 (tn [0, 1, 10, 11, 18, 19, 24, 25, 31] 12) i_control_controller_idle_1_0c7.at_ (i_control_controller_idle_1_0c7.ok e5) w21) aN))
    have w15 : WA P 12 (opsX x) 9 (bs 22 232431) Φ t15 := WAs (an (WE V_ok 0 [] 4 (tn [0, 1, 10, 11, 18, 19, 23, 25, 31] 12) az w17) (an (WE V_ok 0 [] 10 (tn [0, 1, 10, 11, 17, 19, 24, 25, 31] 12) az w19) aN))
    have w14 : WA P 12 (opsX x) 9 (bs 22 102383) Φ t14 := WAs (an (WE V_ok 0 [] 4 (tn [0, 1, 10, 11, 18, 19, 24, 25, 29, 30] 12) az w16) (an (WE V_ok 0 [] 12 (tn [0, 1, 10, 11, 17, 19, 26, 29, 30] 12) (ac n2 (ac n3 az)) w18) (an (WC V_ok 17 (tn [0, 1, 10, 11, 17, 19, 24, 25, 31] 12) i_control_controller_idle_1_0c7.at_ (i_control_controller_idle_1_0c7.ok e5) w19) aN)))
    have w13 : WA P 12 (opsX x) 9 (bs 22 101375) Φ t13 := WAs (an (WE V_ok 0 [] 10 (tn [0, 1, 10, 11, 18, 19, 24, 25, 29, 30] 12) az w16) (an (WC V_ok 17 (tn [0, 1, 10, 11, 18, 19, 23, 25, 31] 12) i_control_controller_idle_1_0c7.at_ (i_control_controller_idle_1_0c7.ok e5) w17) aN))
    have w12 : WA P 12 (opsX x) 10 (bs 22 101359) Φ t12 := WAs (an (WE V_ok 0 [] 4 (tn [0, 1, 10, 11, 18, 19, 23, 25, 29, 30] 12) az w13) (an (WE V_ok 0 [] 10 (tn [0, 1, 10, 11, 17, 19, 24, 25, 29, 30] 12) az w14) (an (WC V_ok 17 (tn [0, 1, 10, 11, 17, 19, 23, 25, 31] 12) i_control_controller_idle_1_0c7.at_ (i_control_controller_idle_1_0c7.ok e5) w15) aN)))
    have w11 : WA P 12 (opsX x) 11 (bs 22 35823) Φ t11 := WT V_ok [] 16 (tn [0, 1, 10, 11, 17, 19, 23, 25, 29, 30] 12) az w12
    have w10 : WA P 12 (opsX x) 12 (bs 22 3055) Φ t10 := WT V_ok [] 15 (tn [0, 1, 4, 10, 11, 17, 19, 23, 25, 29] 12) az w11
    have w9 : WA P 12 (opsX x) 13 (bs 22 1007) Φ t9 := WT V_ok [] 11 (tn [0, 1, 4, 10, 11, 17, 19, 23, 25] 12) az w10
    have w8 : WA P 12 (opsX x) 14 (bs 22 495) Φ t8 := WT V_ok [] 9 (tn [0, 1, 4, 10, 11, 17, 19, 23] 12) az w9
    have w7 : WA P 12 (opsX x) 15 (bs 22 239) Φ t7 := WT V_ok [] 8 (tn [0, 1, 4, 10, 11, 17, 19, 22] 12) az w8
    have w6 : WA P 12 (opsX x) 16 (bs 22 111) Φ t6 := WT V_ok [] 7 (tn [0, 1, 4, 10, 11, 17, 19, 21] 12) az w7
    have w5 : WA P 12 (opsX x) 17 (bs 22 47) Φ t5 := WT V_ok [] 6 (tn [0, 1, 4, 10, 11, 17, 19, 20] 12) az w6
    have w4 : WA P 12 (opsX x) 18 (bs 22 15) Φ t4 := WT V_ok [] 5 (tn [0, 1, 4, 10, 11, 17, 19] 12) az w5
    have w3 : WA P 12 (opsX x) 19 (bs 22 7) Φ t3 := WT V_ok [] 3 (tn [0, 1, 4, 10, 11, 17] 12) az w4
    have w2 : WA P 12 (opsX x) 20 (bs 22 3) Φ t2 := WT V_ok [] 2 (tn [0, 1, 4, 10, 11, 16] 12) az w3
    have w1 : WA P 12 (opsX x) 21 (bs 22 1) Φ t1 := WT V_ok [] 1 (tn [0, 1, 4, 10, 11, 15] 12) az w2
    have w0 : WA P 12 (opsX x) 22 (bs 22 0) Φ t0 := WT V_ok [] 0 (tn [0, 1, 4, 10, 11, 14] 12) az w1
    exact RA V_ok 22 (by kernel_rfl) (by kernel_rfl) (by kernel_rfl) w0
  · refine C0 hb1 ?_
    obtain rfl := Option.some.inj H
    exact Lq (tn [] 12)
noncomputable def l1 (x1 : T26b3.T) (x2 x3 x4 x5 x6 x7 x8 x9 x10 x11 x12 x13 x14 : Int) (x15 : List Int) (x16 : Int) (x17 : List (List (List T1383.T))) (x19 x20 : List Int) (x21 : List T713d.T) (k : Nat) : Nat → Int → Int → List T23b6.T → Option R
  | 0, _, _, _ => none
  | m + 1, p1, p2, p20 => b1 x1 x2 x3 x4 x5 x6 x7 x8 x9 x10 x11 x12 x13 x14 x15 x16 x17 x19 x20 x21 (l1 x1 x2 x3 x4 x5 x6 x7 x8 x9 x10 x11 x12 x13 x14 x15 x16 x17 x19 x20 x21 k m) k p1 p2 p20
theorem l1_ok {r x1 x2 x3 x4 x5 x6 x7 x8 x9 x10 x11 x12 x13 x14 x15 x16 x17 x19 x20 x21} (k : Nat) : ∀ (m1 : Nat) (p1 p2 : Int) (p20 : List T23b6.T), l1 x1 x2 x3 x4 x5 x6 x7 x8 x9 x10 x11 x12 x13 x14 x15 x16 x17 x19 x20 x21 k m1 p1 p2 p20 = some r → Gw P 12 (Q x1 x2 x3 x4 x5 x6 x7 x8 x9 x10 x11 x12 x13 x14 x15 x16 x17 x19 x20 x21 r) (Pb c0 5 [] m1) (s1 x1 x2 x3 x4 x5 x6 x7 x8 x9 x10 x11 x12 x13 x14 x15 x16 x17 x19 x20 x21 p1 p2 p20)
  | 0, _, _, _, H => by cases H
  | m1 + 1, p1, p2, p20, H => SU (by kernel_rfl) (b1_ok (l1_ok k m1) H)
noncomputable def f (k : Nat) (x1 : T26b3.T) (x2 x3 x4 x5 x6 x7 x8 x9 x10 x11 x12 x13 x14 : Int) (x15 : List Int) (x16 : Int) (x17 : List (List (List T1383.T))) (x18 : List T23b6.T) (x19 x20 : List Int) (x21 : List T713d.T) : Option R :=
  l1 x1 x2 x3 x4 x5 x6 x7 x8 x9 x10 x11 x12 x13 x14 x15 x16 x17 x19 x20 x21 k k (x18.length : Int) 0 x18
theorem f_ok {r k x1 x2 x3 x4 x5 x6 x7 x8 x9 x10 x11 x12 x13 x14 x15 x16 x17 x18 x19 x20 x21} (H : f k x1 x2 x3 x4 x5 x6 x7 x8 x9 x10 x11 x12 x13 x14 x15 x16 x17 x18 x19 x20 x21 = some r) : Gw P 12 (Q x1 x2 x3 x4 x5 x6 x7 x8 x9 x10 x11 x12 x13 x14 x15 x16 x17 x19 x20 x21 r) (Px c0 1 []) (s0 x1 x2 x3 x4 x5 x6 x7 x8 x9 x10 x11 x12 x13 x14 x15 x16 x17 x18 x19 x20 x21) := by
  unfold f at H
  refine Rg V_ok 0 [] az ?_
  exact LP k (Jm (tn [0, 1, 10, 11] 12) (l1_ok k k (x18.length : Int) 0 x18 H))
theorem ok {r k x1 x2 x3 x4 x5 x6 x7 x8 x9 x10 x11 x12 x13 x14 x15 x16 x17 x18 x19 x20 x21} (H : f k x1 x2 x3 x4 x5 x6 x7 x8 x9 x10 x11 x12 x13 x14 x15 x16 x17 x18 x19 x20 x21 = some r) : W P 12 c0 (s0 x1 x2 x3 x4 x5 x6 x7 x8 x9 x10 x11 x12 x13 x14 x15 x16 x17 x18 x19 x20 x21) (CallQ 12 (out x1 x2 x3 x4 x5 x6 x7 x8 x9 x10 x11 x12 x13 x14 x15 x16 x17 x19 x20 x21 r)) := of_G (f_ok H)
theorem at_ : FnAt P 75 36 c0 Go.Proofs.Tryd.f75.results := fnAt Go.Proofs.Tryd.func75 (by kernel_rfl) (by decide) (by kernel_rfl) (by kernel_rfl)
end i_control_controller_tell_107
/-! ### function 94, (*wayfinder/control.controller).done$1, where it is called -/

namespace i_control_controller_done_1_481
noncomputable def c0 : Code := (Go.Proofs.Tryd.f94.body).getD .skip
noncomputable def V : Env := { tt := tt, Γ := slk [] }
theorem V_ok : EnvOk P V := { ck := tt_ck, fits := slk_nil, mixed := mixed }
abbrev R := (Bool) × Unit
noncomputable def s0 (x1 : T23b6.T) (x2 : T26b3.T) (x3 x4 x5 x6 x7 x8 x9 x10 x11 x12 x13 x14 x15 x16 : Int) (x17 : List (List (List T1383.T))) (x18 : List Int) (x19 : List T23b6.T) (x20 : List T713d.T) (x21 x22 : List Int) : St := ⟨13, [(0, .cv (.agg (encC .any T23b6 x1)))], [(.box 13, (encC .any T26b3 x2)), (.box 13, [.nils, .i x3, .i x4, .i x5, .i x6, .i x7, .i x8, .nils, .nils, .nils, .nils, .nils, .i x9]), (.box 6, [.fn 35 [] [], .fn 36 [] [], .fn 37 [] [], .fn 38 [] [], .fn 39 [] [], .fn 39 [] []]), (.box 13, [.own 4, .i x10, .i x11, .i x12, .i x13, .i x14, .i x15, .own 5, .own 6, .own 7, .own 8, .own 9, .i x16]), (.buf 64 (.slice (.slice T1383)) x17, []), (.buf 3 (.int .i64) x18, []), (.buf 50 T23b6 x19, []), (.buf 95 T713d x20, []), (.buf 3 (.int .i64) x21, []), (.buf 3 (.int .i64) x22, []), (.box 1, [.ptr 3 0])]⟩
noncomputable def out (x2 : T26b3.T) (x3 x4 x5 x6 x7 x8 x9 x10 x11 x12 x13 x14 x15 x16 : Int) (x17 : List (List (List T1383.T))) (x18 : List Int) (x19 : List T23b6.T) (x20 : List T713d.T) (x21 x22 : List Int) (r : R) : St := ⟨13, [(2, .cv (.one (.bool r.1)))], [(.box 13, (encC .any T26b3 x2)), (.box 13, [.nils, .i x3, .i x4, .i x5, .i x6, .i x7, .i x8, .nils, .nils, .nils, .nils, .nils, .i x9]), (.box 6, [.fn 35 [] [], .fn 36 [] [], .fn 37 [] [], .fn 38 [] [], .fn 39 [] [], .fn 39 [] []]), (.box 13, [.own 4, .i x10, .i x11, .i x12, .i x13, .i x14, .i x15, .own 5, .own 6, .own 7, .own 8, .own 9, .i x16]), (.buf 64 (.slice (.slice T1383)) x17, []), (.buf 3 (.int .i64) x18, []), (.buf 50 T23b6 x19, []), (.buf 95 T713d x20, []), (.buf 3 (.int .i64) x21, []), (.buf 3 (.int .i64) x22, []), (.box 1, [.ptr 3 0])]⟩
abbrev Q (x2 : T26b3.T) (x3 x4 x5 x6 x7 x8 x9 x10 x11 x12 x13 x14 x15 x16 : Int) (x17 : List (List (List T1383.T))) (x18 : List Int) (x19 : List T23b6.T) (x20 : List T713d.T) (x21 x22 : List Int) (r : R) := CallQ 11 (out x2 x3 x4 x5 x6 x7 x8 x9 x10 x11 x12 x13 x14 x15 x16 x17 x18 x19 x20 x21 x22 r)
noncomputable def f (k : Nat) (x1 : T23b6.T) (x2 : T26b3.T) (x3 x4 x5 x6 x7 x8 x9 x10 x11 x12 x13 x14 x15 x16 : Int) (x17 : List (List (List T1383.T))) (x18 : List Int) (x19 : List T23b6.T) (x20 : List T713d.T) (x21 x22 : List Int) : Option R :=
  if (decide (x1.1 ≤ (0 : Int))) = true then
    some (true, ())
  else
    some ((decide ((x1.2.2.2.2.length : Int) > (0 : Int))), ())
theorem f_ok {r k x1 x2 x3 x4 x5 x6 x7 x8 x9 x10 x11 x12 x13 x14 x15 x16 x17 x18 x19 x20 x21 x22} (H : f k x1 x2 x3 x4 x5 x6 x7 x8 x9 x10 x11 x12 x13 x14 x15 x16 x17 x18 x19 x20 x21 x22 = some r) : Gw P 11 (Q x2 x3 x4 x5 x6 x7 x8 x9 x10 x11 x12 x13 x14 x15 x16 x17 x18 x19 x20 x21 x22 r) (Px c0 1 []) (s0 x1 x2 x3 x4 x5 x6 x7 x8 x9 x10 x11 x12 x13 x14 x15 x16 x17 x18 x19 x20 x21 x22) := by
  unfold f at H
  refine Rg V_ok 1 [(0, hb 11)] az ?_
  rcases of_ite H with ⟨hb1, H⟩ | ⟨hb1, H⟩
  · refine Rg V_ok 0 [(2, {bv := some true})] (ac hb1 az) ?_
    obtain rfl := Option.some.inj H
    exact Lq (tn [2] 11)
  · refine Rg V_ok 0 [(2, {bv := some false})] (ac hb1 az) ?_
    obtain rfl := Option.some.inj H
    exact Lq (tn [2] 11)
theorem ok {r k x1 x2 x3 x4 x5 x6 x7 x8 x9 x10 x11 x12 x13 x14 x15 x16 x17 x18 x19 x20 x21 x22} (H : f k x1 x2 x3 x4 x5 x6 x7 x8 x9 x10 x11 x12 x13 x14 x15 x16 x17 x18 x19 x20 x21 x22 = some r) : W P 11 c0 (s0 x1 x2 x3 x4 x5 x6 x7 x8 x9 x10 x11 x12 x13 x14 x15 x16 x17 x18 x19 x20 x21 x22) (CallQ 11 (out x2 x3 x4 x5 x6 x7 x8 x9 x10 x11 x12 x13 x14 x15 x16 x17 x18 x19 x20 x21 x22 r)) := of_G (f_ok H)
theorem at_ : FnAt P 94 13 c0 Go.Proofs.Tryd.f94.results := fnAt Go.Proofs.Tryd.func94 (by kernel_rfl) (by decide) (by kernel_rfl) (by kernel_rfl)
end i_control_controller_done_1_481
/-! ### function 98, slices.IndexFunc[[]wayfinder/api.Peer,wayfinder/api.Peer], where it is called -/

namespace i_slices_IndexFunc_Peer_bc5
noncomputable def c0 : Code := (Go.Proofs.Tryd.f98.body).getD .skip
noncomputable def V : Env := { tt := tt, Γ := slk [] }
theorem V_ok : EnvOk P V := { ck := tt_ck, fits := slk_nil, mixed := mixed }
abbrev R := (Int) × Unit
noncomputable def s0 (x1 : T26b3.T) (x2 x3 x4 x5 x6 x7 x8 x9 x10 x11 x12 x13 x14 x15 : Int) (x16 : List (List (List T1383.T))) (x17 : List Int) (x18 : List T23b6.T) (x19 : List T713d.T) (x20 x21 : List Int) : St := ⟨19, [(0, .cv (.one (.own 6))), (1, .cv (.one (.fn 94 [] [])))], [(.box 13, (encC .any T26b3 x1)), (.box 13, [.nils, .i x2, .i x3, .i x4, .i x5, .i x6, .i x7, .nils, .nils, .nils, .nils, .nils, .i x8]), (.box 6, [.fn 35 [] [], .fn 36 [] [], .fn 37 [] [], .fn 38 [] [], .fn 39 [] [], .fn 39 [] []]), (.box 13, [.own 4, .i x9, .i x10, .i x11, .i x12, .i x13, .i x14, .own 5, .own 6, .own 7, .own 8, .own 9, .i x15]), (.buf 64 (.slice (.slice T1383)) x16, []), (.buf 3 (.int .i64) x17, []), (.buf 50 T23b6 x18, []), (.buf 95 T713d x19, []), (.buf 3 (.int .i64) x20, []), (.buf 3 (.int .i64) x21, []), (.box 1, [.ptr 3 0])]⟩
noncomputable def out (x1 : T26b3.T) (x2 x3 x4 x5 x6 x7 x8 x9 x10 x11 x12 x13 x14 x15 : Int) (x16 : List (List (List T1383.T))) (x17 : List Int) (x18 : List T23b6.T) (x19 : List T713d.T) (x20 x21 : List Int) (r : R) : St := ⟨19, [(4, .cv (.one (.i r.1)))], [(.box 13, (encC .any T26b3 x1)), (.box 13, [.nils, .i x2, .i x3, .i x4, .i x5, .i x6, .i x7, .nils, .nils, .nils, .nils, .nils, .i x8]), (.box 6, [.fn 35 [] [], .fn 36 [] [], .fn 37 [] [], .fn 38 [] [], .fn 39 [] [], .fn 39 [] []]), (.box 13, [.own 4, .i x9, .i x10, .i x11, .i x12, .i x13, .i x14, .own 5, .own 6, .own 7, .own 8, .own 9, .i x15]), (.buf 64 (.slice (.slice T1383)) x16, []), (.buf 3 (.int .i64) x17, []), (.buf 50 T23b6 x18, []), (.buf 95 T713d x19, []), (.buf 3 (.int .i64) x20, []), (.buf 3 (.int .i64) x21, []), (.box 1, [.ptr 3 0])]⟩
abbrev Q (x1 : T26b3.T) (x2 x3 x4 x5 x6 x7 x8 x9 x10 x11 x12 x13 x14 x15 : Int) (x16 : List (List (List T1383.T))) (x17 : List Int) (x18 : List T23b6.T) (x19 : List T713d.T) (x20 x21 : List Int) (r : R) := CallQ 11 (out x1 x2 x3 x4 x5 x6 x7 x8 x9 x10 x11 x12 x13 x14 x15 x16 x17 x18 x19 x20 x21 r)
noncomputable def s1 (x1 : T26b3.T) (x2 x3 x4 x5 x6 x7 x8 x9 x10 x11 x12 x13 x14 x15 : Int) (x16 : List (List (List T1383.T))) (x17 : List Int) (x18 : List T23b6.T) (x19 : List T713d.T) (x20 x21 : List Int) (p1 p2 : Int) : St := ⟨19, [(0, .cv (.one (.own 6))), (1, .cv (.one (.fn 94 [] []))), (7, .cv (.one (.i p1))), (8, .cv (.one (.i p2)))], [(.box 13, (encC .any T26b3 x1)), (.box 13, [.nils, .i x2, .i x3, .i x4, .i x5, .i x6, .i x7, .nils, .nils, .nils, .nils, .nils, .i x8]), (.box 6, [.fn 35 [] [], .fn 36 [] [], .fn 37 [] [], .fn 38 [] [], .fn 39 [] [], .fn 39 [] []]), (.box 13, [.own 4, .i x9, .i x10, .i x11, .i x12, .i x13, .i x14, .own 5, .own 6, .own 7, .own 8, .own 9, .i x15]), (.buf 64 (.slice (.slice T1383)) x16, []), (.buf 3 (.int .i64) x17, []), (.buf 50 T23b6 x18, []), (.buf 95 T713d x19, []), (.buf 3 (.int .i64) x20, []), (.buf 3 (.int .i64) x21, []), (.box 1, [.ptr 3 0])]⟩
noncomputable def b1 (x1 : T26b3.T) (x2 x3 x4 x5 x6 x7 x8 x9 x10 x11 x12 x13 x14 x15 : Int) (x16 : List (List (List T1383.T))) (x17 : List Int) (x18 : List T23b6.T) (x19 : List T713d.T) (x20 x21 : List Int) (L1 : Int → Int → Option R) (k : Nat) (p1 p2 : Int) : Option R :=
  if (decide (p2 < p1)) = true then
  if 0 ≤ p2 then
    if p2 < (x18.length : Int) then
      (i_control_controller_done_1_481.f k (att T23b6 x18 p2) x1 x2 x3 x4 x5 x6 x7 x8 x9 x10 x11 x12 x13 x14 x15 x16 x17 x18 x19 x20 x21).bind fun y4 =>
        if y4.1 = true then
          some (p2, ())
        else
          L1 p1 (IntKind.i64.wrap (p2 + 1))
    else none
  else none
else
  some ((-1), ())
theorem b1_ok {r x1 x2 x3 x4 x5 x6 x7 x8 x9 x10 x11 x12 x13 x14 x15 x16 x17 x18 x19 x20 x21} {L1 : Int → Int → Option R} {m1 : Nat} (hL1 : ∀ p1 p2, L1 p1 p2 = some r → Gw P 11 (Q x1 x2 x3 x4 x5 x6 x7 x8 x9 x10 x11 x12 x13 x14 x15 x16 x17 x18 x19 x20 x21 r) (Pb c0 21 [] m1) (s1 x1 x2 x3 x4 x5 x6 x7 x8 x9 x10 x11 x12 x13 x14 x15 x16 x17 x18 x19 x20 x21 p1 p2)) {k p1 p2} (H : b1 x1 x2 x3 x4 x5 x6 x7 x8 x9 x10 x11 x12 x13 x14 x15 x16 x17 x18 x19 x20 x21 L1 k p1 p2 = some r) : Gw P 11 (Q x1 x2 x3 x4 x5 x6 x7 x8 x9 x10 x11 x12 x13 x14 x15 x16 x17 x18 x19 x20 x21 r) (Px c0 37 [m1]) (s1 x1 x2 x3 x4 x5 x6 x7 x8 x9 x10 x11 x12 x13 x14 x15 x16 x17 x18 x19 x20 x21 p1 p2) := by
  unfold b1 at H
  refine Rg V_ok 0 [] az ?_
  rcases of_ite H with ⟨hb1, H⟩ | ⟨hb1, H⟩
  · refine C1 hb1 ?_
    refine Rg V_ok 0 [] az ?_
    refine GT (tn [0, 1, 5, 7, 8] 11) (RI ?_)
    obtain ⟨n2, H⟩ := of_if H
    obtain ⟨n3, H⟩ := of_if H
    refine EV V_ok 0 [] 5 (ac n2 (ac n3 az)) ?_
    obtain ⟨y4, e5, H⟩ := of_bind H
    refine CL V_ok i_control_controller_done_1_481.at_ (i_control_controller_done_1_481.ok e5) ?_
    refine RN ?_
    rcases of_ite H with ⟨hb6, H⟩ | ⟨hb6, H⟩
    · refine C1 hb6 ?_
      refine Rg V_ok 0 [] az ?_
      obtain rfl := Option.some.inj H
      exact Lq (tn [4] 11)
    · refine C0 hb6 ?_
      refine Rg V_ok 0 [] az ?_
      exact Jm (tn [0, 1, 7, 8] 11) (hL1 p1 (IntKind.i64.wrap (p2 + 1)) H)
  · refine C0 hb1 ?_
    refine Rg V_ok 0 [] az ?_
    obtain rfl := Option.some.inj H
    exact Lq (tn [4] 11)
noncomputable def l1 (x1 : T26b3.T) (x2 x3 x4 x5 x6 x7 x8 x9 x10 x11 x12 x13 x14 x15 : Int) (x16 : List (List (List T1383.T))) (x17 : List Int) (x18 : List T23b6.T) (x19 : List T713d.T) (x20 x21 : List Int) (k : Nat) : Nat → Int → Int → Option R
  | 0, _, _ => none
  | m + 1, p1, p2 => b1 x1 x2 x3 x4 x5 x6 x7 x8 x9 x10 x11 x12 x13 x14 x15 x16 x17 x18 x19 x20 x21 (l1 x1 x2 x3 x4 x5 x6 x7 x8 x9 x10 x11 x12 x13 x14 x15 x16 x17 x18 x19 x20 x21 k m) k p1 p2
theorem l1_ok {r x1 x2 x3 x4 x5 x6 x7 x8 x9 x10 x11 x12 x13 x14 x15 x16 x17 x18 x19 x20 x21} (k : Nat) : ∀ (m1 : Nat) (p1 : Int) (p2 : Int), l1 x1 x2 x3 x4 x5 x6 x7 x8 x9 x10 x11 x12 x13 x14 x15 x16 x17 x18 x19 x20 x21 k m1 p1 p2 = some r → Gw P 11 (Q x1 x2 x3 x4 x5 x6 x7 x8 x9 x10 x11 x12 x13 x14 x15 x16 x17 x18 x19 x20 x21 r) (Pb c0 21 [] m1) (s1 x1 x2 x3 x4 x5 x6 x7 x8 x9 x10 x11 x12 x13 x14 x15 x16 x17 x18 x19 x20 x21 p1 p2)
  | 0, _, _, H => by cases H
  | m1 + 1, p1, p2, H => SU (by kernel_rfl) (b1_ok (l1_ok k m1) H)
noncomputable def f (k : Nat) (x1 : T26b3.T) (x2 x3 x4 x5 x6 x7 x8 x9 x10 x11 x12 x13 x14 x15 : Int) (x16 : List (List (List T1383.T))) (x17 : List Int) (x18 : List T23b6.T) (x19 : List T713d.T) (x20 x21 : List Int) : Option R :=
  l1 x1 x2 x3 x4 x5 x6 x7 x8 x9 x10 x11 x12 x13 x14 x15 x16 x17 x18 x19 x20 x21 k k (x18.length : Int) 0
theorem f_ok {r k x1 x2 x3 x4 x5 x6 x7 x8 x9 x10 x11 x12 x13 x14 x15 x16 x17 x18 x19 x20 x21} (H : f k x1 x2 x3 x4 x5 x6 x7 x8 x9 x10 x11 x12 x13 x14 x15 x16 x17 x18 x19 x20 x21 = some r) : Gw P 11 (Q x1 x2 x3 x4 x5 x6 x7 x8 x9 x10 x11 x12 x13 x14 x15 x16 x17 x18 x19 x20 x21 r) (Px c0 1 []) (s0 x1 x2 x3 x4 x5 x6 x7 x8 x9 x10 x11 x12 x13 x14 x15 x16 x17 x18 x19 x20 x21) := by
  unfold f at H
  refine Rg V_ok 0 [] az ?_
  refine Rg V_ok 0 [] az ?_
  exact LP k (Jm (tn [0, 1, 7, 8] 11) (l1_ok k k (x18.length : Int) 0 H))
theorem ok {r k x1 x2 x3 x4 x5 x6 x7 x8 x9 x10 x11 x12 x13 x14 x15 x16 x17 x18 x19 x20 x21} (H : f k x1 x2 x3 x4 x5 x6 x7 x8 x9 x10 x11 x12 x13 x14 x15 x16 x17 x18 x19 x20 x21 = some r) : W P 11 c0 (s0 x1 x2 x3 x4 x5 x6 x7 x8 x9 x10 x11 x12 x13 x14 x15 x16 x17 x18 x19 x20 x21) (CallQ 11 (out x1 x2 x3 x4 x5 x6 x7 x8 x9 x10 x11 x12 x13 x14 x15 x16 x17 x18 x19 x20 x21 r)) := of_G (f_ok H)
theorem at_ : FnAt P 98 19 c0 Go.Proofs.Tryd.f98.results := fnAt Go.Proofs.Tryd.func98 (by kernel_rfl) (by decide) (by kernel_rfl) (by kernel_rfl)
end i_slices_IndexFunc_Peer_bc5
/-! ### function 78, slices.ContainsFunc[[]wayfinder/api.Peer,wayfinder/api.Peer], where it is called -/

namespace i_slices_ContainsFunc_Peer_bc5
noncomputable def c0 : Code := (Go.Proofs.Tryd.f78.body).getD .skip
noncomputable def V : Env := { tt := tt, Γ := slk [] }
theorem V_ok : EnvOk P V := { ck := tt_ck, fits := slk_nil, mixed := mixed }
abbrev R := (Bool) × Unit
noncomputable def s0 (x1 : T26b3.T) (x2 x3 x4 x5 x6 x7 x8 x9 x10 x11 x12 x13 x14 x15 : Int) (x16 : List (List (List T1383.T))) (x17 : List Int) (x18 : List T23b6.T) (x19 : List T713d.T) (x20 x21 : List Int) : St := ⟨9, [(0, .cv (.one (.own 6))), (1, .cv (.one (.fn 94 [] [])))], [(.box 13, (encC .any T26b3 x1)), (.box 13, [.nils, .i x2, .i x3, .i x4, .i x5, .i x6, .i x7, .nils, .nils, .nils, .nils, .nils, .i x8]), (.box 6, [.fn 35 [] [], .fn 36 [] [], .fn 37 [] [], .fn 38 [] [], .fn 39 [] [], .fn 39 [] []]), (.box 13, [.own 4, .i x9, .i x10, .i x11, .i x12, .i x13, .i x14, .own 5, .own 6, .own 7, .own 8, .own 9, .i x15]), (.buf 64 (.slice (.slice T1383)) x16, []), (.buf 3 (.int .i64) x17, []), (.buf 50 T23b6 x18, []), (.buf 95 T713d x19, []), (.buf 3 (.int .i64) x20, []), (.buf 3 (.int .i64) x21, []), (.box 1, [.ptr 3 0])]⟩
noncomputable def out (x1 : T26b3.T) (x2 x3 x4 x5 x6 x7 x8 x9 x10 x11 x12 x13 x14 x15 : Int) (x16 : List (List (List T1383.T))) (x17 : List Int) (x18 : List T23b6.T) (x19 : List T713d.T) (x20 x21 : List Int) (r : R) : St := ⟨9, [(4, .cv (.one (.bool r.1)))], [(.box 13, (encC .any T26b3 x1)), (.box 13, [.nils, .i x2, .i x3, .i x4, .i x5, .i x6, .i x7, .nils, .nils, .nils, .nils, .nils, .i x8]), (.box 6, [.fn 35 [] [], .fn 36 [] [], .fn 37 [] [], .fn 38 [] [], .fn 39 [] [], .fn 39 [] []]), (.box 13, [.own 4, .i x9, .i x10, .i x11, .i x12, .i x13, .i x14, .own 5, .own 6, .own 7, .own 8, .own 9, .i x15]), (.buf 64 (.slice (.slice T1383)) x16, []), (.buf 3 (.int .i64) x17, []), (.buf 50 T23b6 x18, []), (.buf 95 T713d x19, []), (.buf 3 (.int .i64) x20, []), (.buf 3 (.int .i64) x21, []), (.box 1, [.ptr 3 0])]⟩
abbrev Q (x1 : T26b3.T) (x2 x3 x4 x5 x6 x7 x8 x9 x10 x11 x12 x13 x14 x15 : Int) (x16 : List (List (List T1383.T))) (x17 : List Int) (x18 : List T23b6.T) (x19 : List T713d.T) (x20 x21 : List Int) (r : R) := CallQ 11 (out x1 x2 x3 x4 x5 x6 x7 x8 x9 x10 x11 x12 x13 x14 x15 x16 x17 x18 x19 x20 x21 r)
noncomputable def f (k : Nat) (x1 : T26b3.T) (x2 x3 x4 x5 x6 x7 x8 x9 x10 x11 x12 x13 x14 x15 : Int) (x16 : List (List (List T1383.T))) (x17 : List Int) (x18 : List T23b6.T) (x19 : List T713d.T) (x20 x21 : List Int) : Option R :=
  (i_slices_IndexFunc_Peer_bc5.f k x1 x2 x3 x4 x5 x6 x7 x8 x9 x10 x11 x12 x13 x14 x15 x16 x17 x18 x19 x20 x21).bind fun y1 =>
    some ((decide (y1.1 ≥ (0 : Int))), ())
theorem f_ok {r k x1 x2 x3 x4 x5 x6 x7 x8 x9 x10 x11 x12 x13 x14 x15 x16 x17 x18 x19 x20 x21} (H : f k x1 x2 x3 x4 x5 x6 x7 x8 x9 x10 x11 x12 x13 x14 x15 x16 x17 x18 x19 x20 x21 = some r) : Gw P 11 (Q x1 x2 x3 x4 x5 x6 x7 x8 x9 x10 x11 x12 x13 x14 x15 x16 x17 x18 x19 x20 x21 r) (Px c0 1 []) (s0 x1 x2 x3 x4 x5 x6 x7 x8 x9 x10 x11 x12 x13 x14 x15 x16 x17 x18 x19 x20 x21) := by
  unfold f at H
  refine Rg V_ok 0 [] az ?_
  refine GT (tn [0, 1] 11) (RI ?_)
  refine EV V_ok 0 [] 2 az ?_
  obtain ⟨y1, e2, H⟩ := of_bind H
  refine CL V_ok i_slices_IndexFunc_Peer_bc5.at_ (i_slices_IndexFunc_Peer_bc5.ok e2) ?_
  refine EV V_ok 0 [] 2 az ?_
  refine RN ?_
  obtain rfl := Option.some.inj H
  exact Lq (tn [4] 11)
theorem ok {r k x1 x2 x3 x4 x5 x6 x7 x8 x9 x10 x11 x12 x13 x14 x15 x16 x17 x18 x19 x20 x21} (H : f k x1 x2 x3 x4 x5 x6 x7 x8 x9 x10 x11 x12 x13 x14 x15 x16 x17 x18 x19 x20 x21 = some r) : W P 11 c0 (s0 x1 x2 x3 x4 x5 x6 x7 x8 x9 x10 x11 x12 x13 x14 x15 x16 x17 x18 x19 x20 x21) (CallQ 11 (out x1 x2 x3 x4 x5 x6 x7 x8 x9 x10 x11 x12 x13 x14 x15 x16 x17 x18 x19 x20 x21 r)) := of_G (f_ok H)
theorem at_ : FnAt P 78 9 c0 Go.Proofs.Tryd.f78.results := fnAt Go.Proofs.Tryd.func78 (by kernel_rfl) (by decide) (by kernel_rfl) (by kernel_rfl)
end i_slices_ContainsFunc_Peer_bc5
/-! ### function 73, (*wayfinder/control.controller).done, where it is called -/

namespace i_control_controller_done_ad0
noncomputable def c0 : Code := (Go.Proofs.Tryd.f73.body).getD .skip
noncomputable def V : Env := { tt := tt, Γ := slk [] }
theorem V_ok : EnvOk P V := { ck := tt_ck, fits := slk_nil, mixed := mixed }
abbrev R := (Bool) × Unit
noncomputable def s0 (x1 : T26b3.T) (x2 x3 x4 x5 x6 x7 x8 x9 x10 x11 x12 x13 x14 x15 : Int) (x16 : List (List (List T1383.T))) (x17 : List Int) (x18 : List T23b6.T) (x19 : List T713d.T) (x20 x21 : List Int) : St := ⟨10, [(0, .cv (.one (.ptr 3 0)))], [(.box 13, (encC .any T26b3 x1)), (.box 13, [.nils, .i x2, .i x3, .i x4, .i x5, .i x6, .i x7, .nils, .nils, .nils, .nils, .nils, .i x8]), (.box 6, [.fn 35 [] [], .fn 36 [] [], .fn 37 [] [], .fn 38 [] [], .fn 39 [] [], .fn 39 [] []]), (.box 13, [.own 4, .i x9, .i x10, .i x11, .i x12, .i x13, .i x14, .own 5, .own 6, .own 7, .own 8, .own 9, .i x15]), (.buf 64 (.slice (.slice T1383)) x16, []), (.buf 3 (.int .i64) x17, []), (.buf 50 T23b6 x18, []), (.buf 95 T713d x19, []), (.buf 3 (.int .i64) x20, []), (.buf 3 (.int .i64) x21, []), (.box 1, [.ptr 3 0])]⟩
noncomputable def out (x1 : T26b3.T) (x2 x3 x4 x5 x6 x7 x8 x9 x10 x11 x12 x13 x14 x15 : Int) (x16 : List (List (List T1383.T))) (x17 : List Int) (x18 : List T23b6.T) (x19 : List T713d.T) (x20 x21 : List Int) (r : R) : St := ⟨10, [(2, .cv (.one (.bool r.1)))], [(.box 13, (encC .any T26b3 x1)), (.box 13, [.nils, .i x2, .i x3, .i x4, .i x5, .i x6, .i x7, .nils, .nils, .nils, .nils, .nils, .i x8]), (.box 6, [.fn 35 [] [], .fn 36 [] [], .fn 37 [] [], .fn 38 [] [], .fn 39 [] [], .fn 39 [] []]), (.box 13, [.own 4, .i x9, .i x10, .i x11, .i x12, .i x13, .i x14, .own 5, .own 6, .own 7, .own 8, .own 9, .i x15]), (.buf 64 (.slice (.slice T1383)) x16, []), (.buf 3 (.int .i64) x17, []), (.buf 50 T23b6 x18, []), (.buf 95 T713d x19, []), (.buf 3 (.int .i64) x20, []), (.buf 3 (.int .i64) x21, []), (.box 1, [.ptr 3 0])]⟩
abbrev Q (x1 : T26b3.T) (x2 x3 x4 x5 x6 x7 x8 x9 x10 x11 x12 x13 x14 x15 : Int) (x16 : List (List (List T1383.T))) (x17 : List Int) (x18 : List T23b6.T) (x19 : List T713d.T) (x20 x21 : List Int) (r : R) := CallQ 11 (out x1 x2 x3 x4 x5 x6 x7 x8 x9 x10 x11 x12 x13 x14 x15 x16 x17 x18 x19 x20 x21 r)
noncomputable def f (k : Nat) (x1 : T26b3.T) (x2 x3 x4 x5 x6 x7 x8 x9 x10 x11 x12 x13 x14 x15 : Int) (x16 : List (List (List T1383.T))) (x17 : List Int) (x18 : List T23b6.T) (x19 : List T713d.T) (x20 x21 : List Int) : Option R :=
  (i_slices_ContainsFunc_Peer_bc5.f k x1 x2 x3 x4 x5 x6 x7 x8 x9 x10 x11 x12 x13 x14 x15 x16 x17 x18 x19 x20 x21).bind fun y1 =>
    some ((!y1.1), ())
theorem f_ok {r k x1 x2 x3 x4 x5 x6 x7 x8 x9 x10 x11 x12 x13 x14 x15 x16 x17 x18 x19 x20 x21} (H : f k x1 x2 x3 x4 x5 x6 x7 x8 x9 x10 x11 x12 x13 x14 x15 x16 x17 x18 x19 x20 x21 = some r) : Gw P 11 (Q x1 x2 x3 x4 x5 x6 x7 x8 x9 x10 x11 x12 x13 x14 x15 x16 x17 x18 x19 x20 x21 r) (Px c0 1 []) (s0 x1 x2 x3 x4 x5 x6 x7 x8 x9 x10 x11 x12 x13 x14 x15 x16 x17 x18 x19 x20 x21) := by
  unfold f at H
  refine Rg V_ok 0 [] az ?_
  refine GT (tn [0] 11) (RI ?_)
  refine EV V_ok 0 [] 5 az ?_
  obtain ⟨y1, e2, H⟩ := of_bind H
  refine CL V_ok i_slices_ContainsFunc_Peer_bc5.at_ (i_slices_ContainsFunc_Peer_bc5.ok e2) ?_
  refine EV V_ok 0 [] 2 az ?_
  refine RN ?_
  obtain rfl := Option.some.inj H
  exact Lq (tn [2] 11)
theorem ok {r k x1 x2 x3 x4 x5 x6 x7 x8 x9 x10 x11 x12 x13 x14 x15 x16 x17 x18 x19 x20 x21} (H : f k x1 x2 x3 x4 x5 x6 x7 x8 x9 x10 x11 x12 x13 x14 x15 x16 x17 x18 x19 x20 x21 = some r) : W P 11 c0 (s0 x1 x2 x3 x4 x5 x6 x7 x8 x9 x10 x11 x12 x13 x14 x15 x16 x17 x18 x19 x20 x21) (CallQ 11 (out x1 x2 x3 x4 x5 x6 x7 x8 x9 x10 x11 x12 x13 x14 x15 x16 x17 x18 x19 x20 x21 r)) := of_G (f_ok H)
theorem at_ : FnAt P 73 10 c0 Go.Proofs.Tryd.f73.results := fnAt Go.Proofs.Tryd.func73 (by kernel_rfl) (by decide) (by kernel_rfl) (by kernel_rfl)
end i_control_controller_done_ad0
/-! ### function 35, (*wayfinder/control.controller).idle, where it is called -/

namespace i_control_controller_idle_d8b
noncomputable def c0 : Code := (Go.Proofs.Tryd.f35.body).getD .skip
noncomputable def V : Env := { tt := tt, Γ := slk [(74, f_tags_Next.S)] }
theorem V_ok : EnvOk P V := { ck := tt_ck, fits := slk_cons f_tags_Next.fits (slk_nil), mixed := mixed }
abbrev R := (Int) × (Int) × (Int) × (List Int) × (List T713d.T) × (List T23b6.T) × Unit
noncomputable def s0 (x1 : T26b3.T) (x2 x3 x4 x5 x6 x7 x8 x9 x10 x11 x12 x13 x14 x15 : Int) (x16 : List (List (List T1383.T))) (x17 : List Int) (x18 : List T23b6.T) (x19 : List T713d.T) (x20 x21 : List Int) : St := ⟨74, [(0, .cv (.one (.ptr 3 0)))], [(.box 13, (encC .any T26b3 x1)), (.box 13, [.nils, .i x2, .i x3, .i x4, .i x5, .i x6, .i x7, .nils, .nils, .nils, .nils, .nils, .i x8]), (.box 6, [.fn 35 [] [], .fn 36 [] [], .fn 37 [] [], .fn 38 [] [], .fn 39 [] [], .fn 39 [] []]), (.box 13, [.own 4, .i x9, .i x10, .i x11, .i x12, .i x13, .i x14, .own 5, .own 6, .own 7, .own 8, .own 9, .i x15]), (.buf 64 (.slice (.slice T1383)) x16, []), (.buf 3 (.int .i64) x17, []), (.buf 50 T23b6 x18, []), (.buf 95 T713d x19, []), (.buf 3 (.int .i64) x20, []), (.buf 3 (.int .i64) x21, [])]⟩
noncomputable def out (x1 : T26b3.T) (x2 x3 x4 x5 x6 x7 x8 x9 x11 x14 x15 : Int) (x16 : List (List (List T1383.T))) (x20 x21 : List Int) (r : R) : St := ⟨74, [], [(.box 13, (encC .any T26b3 x1)), (.box 13, [.nils, .i x2, .i x3, .i x4, .i x5, .i x6, .i x7, .nils, .nils, .nils, .nils, .nils, .i x8]), (.box 6, [.fn 35 [] [], .fn 36 [] [], .fn 37 [] [], .fn 38 [] [], .fn 39 [] [], .fn 39 [] []]), (.box 13, [.own 4, .i x9, .i r.1, .i x11, .i r.2.1, .i r.2.2.1, .i x14, .sl (.int .i64) r.2.2.2.1 .any, .own 6, .sl T713d r.2.2.2.2.1 .any, .own 8, .own 9, .i x15]), (.buf 64 (.slice (.slice T1383)) x16, []), (.dead, []), (.buf 50 T23b6 r.2.2.2.2.2.1, []), (.dead, []), (.buf 3 (.int .i64) x20, []), (.buf 3 (.int .i64) x21, [])]⟩
abbrev Q (x1 : T26b3.T) (x2 x3 x4 x5 x6 x7 x8 x9 x11 x14 x15 : Int) (x16 : List (List (List T1383.T))) (x20 x21 : List Int) (r : R) := CallQ 10 (out x1 x2 x3 x4 x5 x6 x7 x8 x9 x11 x14 x15 x16 x20 x21 r)
noncomputable def s1 (x1 : T26b3.T) (x2 x3 x4 x5 x6 x7 x8 x9 x10 x11 x12 x13 x14 x15 : Int) (x16 : List (List (List T1383.T))) (x17 : List Int) (x18 : List T23b6.T) (x19 : List T713d.T) (x20 x21 : List Int) (p1 : Bool) : St := ⟨74, [(1, .cv (.one (.ptr 10 0))), (13, .cv (.one (.bool p1)))], [(.box 13, (encC .any T26b3 x1)), (.box 13, [.nils, .i x2, .i x3, .i x4, .i x5, .i x6, .i x7, .nils, .nils, .nils, .nils, .nils, .i x8]), (.box 6, [.fn 35 [] [], .fn 36 [] [], .fn 37 [] [], .fn 38 [] [], .fn 39 [] [], .fn 39 [] []]), (.box 13, [.own 4, .i x9, .i x10, .i x11, .i x12, .i x13, .i x14, .own 5, .own 6, .own 7, .own 8, .own 9, .i x15]), (.buf 64 (.slice (.slice T1383)) x16, []), (.buf 3 (.int .i64) x17, []), (.buf 50 T23b6 x18, []), (.buf 95 T713d x19, []), (.buf 3 (.int .i64) x20, []), (.buf 3 (.int .i64) x21, []), (.box 1, [.ptr 3 0])]⟩
noncomputable def j1 (x1 : T26b3.T) (x2 x3 x4 x5 x6 x7 x8 x9 x10 x11 x12 x13 x14 x15 : Int) (x16 : List (List (List T1383.T))) (x17 : List Int) (x18 : List T23b6.T) (x19 : List T713d.T) (x20 x21 : List Int) (k : Nat) (p1 : Bool) : Option R :=
  if p1 = true then
  some (x10, (x12, (x13, (x17, (x19, (x18, ()))))))
else
  if (0 : Int) < (x17.length : Int) then
    if 0 ≤ (1 : Int) ∧ (1 : Int) ≤ (x17.length : Int) ∧ (x17.length : Int) ≤ (x17.length : Int) then
      (f_tags_Next.f k x11 []).bind fun y5 =>
        if (x19.length + 1) * 16 ≤ 140737488355328 then
          (i_control_controller_tell_107.f k x1 x2 x3 x4 x5 x6 x7 x8 x9 (att (.int .i64) x17 0) x11 y5.1 (1 : Int) x14 ((x17.take (x17.length : Int).toNat).drop (1 : Int).toNat) x15 x16 x18 x20 x21 (x19 ++ [(y5.1, (att (.int .i64) x17 0))])).bind fun y8 =>
            some ((att (.int .i64) x17 0), (y5.1, ((1 : Int), (((x17.take (x17.length : Int).toNat).drop (1 : Int).toNat), ((x19 ++ [(y5.1, (att (.int .i64) x17 0))]), (y8.1, ()))))))
        else none
    else none
  else none
theorem j1_ok {r x1 x2 x3 x4 x5 x6 x7 x8 x9 x10 x11 x12 x13 x14 x15 x16 x17 x18 x19 x20 x21} {k p1} (H : j1 x1 x2 x3 x4 x5 x6 x7 x8 x9 x10 x11 x12 x13 x14 x15 x16 x17 x18 x19 x20 x21 k p1 = some r) : Gw P 10 (Q x1 x2 x3 x4 x5 x6 x7 x8 x9 x11 x14 x15 x16 x20 x21 r) (Px c0 13 []) (s1 x1 x2 x3 x4 x5 x6 x7 x8 x9 x10 x11 x12 x13 x14 x15 x16 x17 x18 x19 x20 x21 p1) := by
  unfold j1 at H
  rcases of_ite H with ⟨hb2, H⟩ | ⟨hb2, H⟩
  · refine C1 hb2 ?_
    obtain rfl := Option.some.inj H
    exact Lq {fz := [5, 7], gr := 0, ad := [], live := [], src := [some 0, some 1, some 2, some 3, some 4, some 5, some 6, some 7, some 8, some 9]}
  · refine C0 hb2 ?_
    refine FZ 5 ?_
    obtain ⟨n3, H⟩ := of_if H
    obtain ⟨n4, H⟩ := of_if H
    refine Rg V_ok 0 [] (ac (show 0 ≤ (0 : Int) by decide) (ac n3 (ac n4 az))) ?_
    obtain ⟨y5, e6, H⟩ := of_bind H
    refine Rg V_ok 0 [(7, hr f_tags_Next.S y5)] (ac (f_tags_Next.rl e6) az) ?_
    obtain ⟨n7, H⟩ := of_if H
    refine Rg V_ok 1 [(18, hb 11)] (ac n7 az) ?_
    refine GT (tn [1] 12) (RI ?_)
    refine EV V_ok 0 [] 2 az ?_
    obtain ⟨y8, e9, H⟩ := of_bind H
    refine CL V_ok i_control_controller_tell_107.at_ (i_control_controller_tell_107.ok e9) ?_
    refine RN ?_
    obtain rfl := Option.some.inj H
    exact Lq {fz := [11], gr := 0, ad := [], live := [], src := [some 0, some 1, some 2, some 3, some 4, some 5, some 6, some 7, some 8, some 9]}
noncomputable def f (k : Nat) (x1 : T26b3.T) (x2 x3 x4 x5 x6 x7 x8 x9 x10 x11 x12 x13 x14 x15 : Int) (x16 : List (List (List T1383.T))) (x17 : List Int) (x18 : List T23b6.T) (x19 : List T713d.T) (x20 x21 : List Int) : Option R :=
  if ((x17.length : Int) == (0 : Int)) = true then
    j1 x1 x2 x3 x4 x5 x6 x7 x8 x9 x10 x11 x12 x13 x14 x15 x16 x17 x18 x19 x20 x21 k true
  else
    (i_control_controller_done_ad0.f k x1 x2 x3 x4 x5 x6 x7 x8 x9 x10 x11 x12 x13 x14 x15 x16 x17 x18 x19 x20 x21).bind fun y10 =>
      j1 x1 x2 x3 x4 x5 x6 x7 x8 x9 x10 x11 x12 x13 x14 x15 x16 x17 x18 x19 x20 x21 k (!y10.1)
theorem f_ok {r k x1 x2 x3 x4 x5 x6 x7 x8 x9 x10 x11 x12 x13 x14 x15 x16 x17 x18 x19 x20 x21} (H : f k x1 x2 x3 x4 x5 x6 x7 x8 x9 x10 x11 x12 x13 x14 x15 x16 x17 x18 x19 x20 x21 = some r) : Gw P 10 (Q x1 x2 x3 x4 x5 x6 x7 x8 x9 x11 x14 x15 x16 x20 x21 r) (Px c0 1 []) (s0 x1 x2 x3 x4 x5 x6 x7 x8 x9 x10 x11 x12 x13 x14 x15 x16 x17 x18 x19 x20 x21) := by
  unfold f at H
  refine Rg V_ok 1 [(0, hb 10)] az ?_
  refine GT (tn [1] 11) (RI ?_)
  refine EV V_ok 0 [] 8 az ?_
  rcases of_ite H with ⟨hb1, H⟩ | ⟨hb1, H⟩
  · refine FXO 9 hb1 ?_
    refine EV V_ok 0 [] 4 az ?_
    refine RN ?_
    exact Jm (tn [1, 13] 11) (j1_ok H)
  · refine FXO 9 hb1 ?_
    refine EV V_ok 0 [] 1 az ?_
    obtain ⟨y10, e11, H⟩ := of_bind H
    refine CL V_ok i_control_controller_done_ad0.at_ (i_control_controller_done_ad0.ok e11) ?_
    refine EV V_ok 0 [] 2 az ?_
    refine RN ?_
    exact Jm (tn [1, 13] 11) (j1_ok H)
theorem ok {r k x1 x2 x3 x4 x5 x6 x7 x8 x9 x10 x11 x12 x13 x14 x15 x16 x17 x18 x19 x20 x21} (H : f k x1 x2 x3 x4 x5 x6 x7 x8 x9 x10 x11 x12 x13 x14 x15 x16 x17 x18 x19 x20 x21 = some r) : W P 10 c0 (s0 x1 x2 x3 x4 x5 x6 x7 x8 x9 x10 x11 x12 x13 x14 x15 x16 x17 x18 x19 x20 x21) (CallQ 10 (out x1 x2 x3 x4 x5 x6 x7 x8 x9 x11 x14 x15 x16 x20 x21 r)) := of_G (f_ok H)
theorem at_ : FnAt P 35 74 c0 Go.Proofs.Tryd.f35.results := fnAt Go.Proofs.Tryd.func35 (by kernel_rfl) (by decide) (by kernel_rfl) (by kernel_rfl)
end i_control_controller_idle_d8b
/-! ### function 79, (*wayfinder/control.controller).install$1, where it is called -/

namespace i_control_controller_install_1_71d
noncomputable def c0 : Code := (Go.Proofs.Tryd.f79.body).getD .skip
noncomputable def V : Env := { tt := tt, Γ := slk [] }
theorem V_ok : EnvOk P V := { ck := tt_ck, fits := slk_nil, mixed := mixed }
abbrev R := (Bool) × Unit
noncomputable def s0 (x1 : T23b6.T) (x2 : T26b3.T) (x3 x4 x5 x6 x7 x8 x9 x10 x11 x12 x13 x14 x15 x16 : Int) (x17 : List (List (List T1383.T))) (x18 : List Int) (x19 : List T23b6.T) (x20 : List T713d.T) (x21 x22 : List Int) : St := ⟨12, [(0, .cv (.agg (encC .any T23b6 x1))), (1, .cv (.one (.ptr 10 0)))], [(.box 13, (encC .any T26b3 x2)), (.box 13, [.nils, .i x3, .i x4, .i x5, .i x6, .i x7, .i x8, .nils, .nils, .nils, .nils, .nils, .i x9]), (.box 6, [.fn 35 [] [], .fn 36 [] [], .fn 37 [] [], .fn 38 [] [], .fn 39 [] [], .fn 39 [] []]), (.box 13, [.own 4, .i x10, .i x11, .i x12, .i x13, .i x14, .i x15, .own 5, .own 6, .own 7, .own 8, .own 9, .i x16]), (.buf 64 (.slice (.slice T1383)) x17, []), (.buf 3 (.int .i64) x18, []), (.buf 50 T23b6 x19, []), (.buf 95 T713d x20, []), (.buf 3 (.int .i64) x21, []), (.buf 3 (.int .i64) x22, []), (.box 1, [.ptr 3 0])]⟩
noncomputable def out (x2 : T26b3.T) (x3 x4 x5 x6 x7 x8 x9 x10 x11 x12 x13 x14 x15 x16 : Int) (x17 : List (List (List T1383.T))) (x18 : List Int) (x19 : List T23b6.T) (x20 : List T713d.T) (x21 x22 : List Int) (r : R) : St := ⟨12, [(3, .cv (.one (.bool r.1)))], [(.box 13, (encC .any T26b3 x2)), (.box 13, [.nils, .i x3, .i x4, .i x5, .i x6, .i x7, .i x8, .nils, .nils, .nils, .nils, .nils, .i x9]), (.box 6, [.fn 35 [] [], .fn 36 [] [], .fn 37 [] [], .fn 38 [] [], .fn 39 [] [], .fn 39 [] []]), (.box 13, [.own 4, .i x10, .i x11, .i x12, .i x13, .i x14, .i x15, .own 5, .own 6, .own 7, .own 8, .own 9, .i x16]), (.buf 64 (.slice (.slice T1383)) x17, []), (.buf 3 (.int .i64) x18, []), (.buf 50 T23b6 x19, []), (.buf 95 T713d x20, []), (.buf 3 (.int .i64) x21, []), (.buf 3 (.int .i64) x22, []), (.box 1, [.ptr 3 0])]⟩
abbrev Q (x2 : T26b3.T) (x3 x4 x5 x6 x7 x8 x9 x10 x11 x12 x13 x14 x15 x16 : Int) (x17 : List (List (List T1383.T))) (x18 : List Int) (x19 : List T23b6.T) (x20 : List T713d.T) (x21 x22 : List Int) (r : R) := CallQ 11 (out x2 x3 x4 x5 x6 x7 x8 x9 x10 x11 x12 x13 x14 x15 x16 x17 x18 x19 x20 x21 x22 r)
noncomputable def f (k : Nat) (x1 : T23b6.T) (x2 : T26b3.T) (x3 x4 x5 x6 x7 x8 x9 x10 x11 x12 x13 x14 x15 x16 : Int) (x17 : List (List (List T1383.T))) (x18 : List Int) (x19 : List T23b6.T) (x20 : List T713d.T) (x21 x22 : List Int) : Option R :=
  some ((x1.2.1 == x13), ())
theorem f_ok {r k x1 x2 x3 x4 x5 x6 x7 x8 x9 x10 x11 x12 x13 x14 x15 x16 x17 x18 x19 x20 x21 x22} (H : f k x1 x2 x3 x4 x5 x6 x7 x8 x9 x10 x11 x12 x13 x14 x15 x16 x17 x18 x19 x20 x21 x22 = some r) : Gw P 11 (Q x2 x3 x4 x5 x6 x7 x8 x9 x10 x11 x12 x13 x14 x15 x16 x17 x18 x19 x20 x21 x22 r) (Px c0 1 []) (s0 x1 x2 x3 x4 x5 x6 x7 x8 x9 x10 x11 x12 x13 x14 x15 x16 x17 x18 x19 x20 x21 x22) := by
  unfold f at H
  refine Rg V_ok 1 [(0, hb 11)] az ?_
  refine Rg V_ok 0 [] az ?_
  obtain rfl := Option.some.inj H
  exact Lq (tn [3] 11)
theorem ok {r k x1 x2 x3 x4 x5 x6 x7 x8 x9 x10 x11 x12 x13 x14 x15 x16 x17 x18 x19 x20 x21 x22} (H : f k x1 x2 x3 x4 x5 x6 x7 x8 x9 x10 x11 x12 x13 x14 x15 x16 x17 x18 x19 x20 x21 x22 = some r) : W P 11 c0 (s0 x1 x2 x3 x4 x5 x6 x7 x8 x9 x10 x11 x12 x13 x14 x15 x16 x17 x18 x19 x20 x21 x22) (CallQ 11 (out x2 x3 x4 x5 x6 x7 x8 x9 x10 x11 x12 x13 x14 x15 x16 x17 x18 x19 x20 x21 x22 r)) := of_G (f_ok H)
theorem at_ : FnAt P 79 12 c0 Go.Proofs.Tryd.f79.results := fnAt Go.Proofs.Tryd.func79 (by kernel_rfl) (by decide) (by kernel_rfl) (by kernel_rfl)
end i_control_controller_install_1_71d
/-! ### function 98, slices.IndexFunc[[]wayfinder/api.Peer,wayfinder/api.Peer], where it is called -/

namespace i_slices_IndexFunc_Peer_d2b
noncomputable def c0 : Code := (Go.Proofs.Tryd.f98.body).getD .skip
noncomputable def V : Env := { tt := tt, Γ := slk [] }
theorem V_ok : EnvOk P V := { ck := tt_ck, fits := slk_nil, mixed := mixed }
abbrev R := (Int) × Unit
noncomputable def s0 (x1 : T26b3.T) (x2 x3 x4 x5 x6 x7 x8 x9 x10 x11 x12 x13 x14 x15 : Int) (x16 : List (List (List T1383.T))) (x17 : List Int) (x18 : List T23b6.T) (x19 : List T713d.T) (x20 x21 : List Int) : St := ⟨19, [(0, .cv (.one (.own 6))), (1, .cv (.one (.fn 79 [] [(10, 0)])))], [(.box 13, (encC .any T26b3 x1)), (.box 13, [.nils, .i x2, .i x3, .i x4, .i x5, .i x6, .i x7, .nils, .nils, .nils, .nils, .nils, .i x8]), (.box 6, [.fn 35 [] [], .fn 36 [] [], .fn 37 [] [], .fn 38 [] [], .fn 39 [] [], .fn 39 [] []]), (.box 13, [.own 4, .i x9, .i x10, .i x11, .i x12, .i x13, .i x14, .own 5, .own 6, .own 7, .own 8, .own 9, .i x15]), (.buf 64 (.slice (.slice T1383)) x16, []), (.buf 3 (.int .i64) x17, []), (.buf 50 T23b6 x18, []), (.buf 95 T713d x19, []), (.buf 3 (.int .i64) x20, []), (.buf 3 (.int .i64) x21, []), (.box 1, [.ptr 3 0])]⟩
noncomputable def out (x1 : T26b3.T) (x2 x3 x4 x5 x6 x7 x8 x9 x10 x11 x12 x13 x14 x15 : Int) (x16 : List (List (List T1383.T))) (x17 : List Int) (x18 : List T23b6.T) (x19 : List T713d.T) (x20 x21 : List Int) (r : R) : St := ⟨19, [(4, .cv (.one (.i r.1)))], [(.box 13, (encC .any T26b3 x1)), (.box 13, [.nils, .i x2, .i x3, .i x4, .i x5, .i x6, .i x7, .nils, .nils, .nils, .nils, .nils, .i x8]), (.box 6, [.fn 35 [] [], .fn 36 [] [], .fn 37 [] [], .fn 38 [] [], .fn 39 [] [], .fn 39 [] []]), (.box 13, [.own 4, .i x9, .i x10, .i x11, .i x12, .i x13, .i x14, .own 5, .own 6, .own 7, .own 8, .own 9, .i x15]), (.buf 64 (.slice (.slice T1383)) x16, []), (.buf 3 (.int .i64) x17, []), (.buf 50 T23b6 x18, []), (.buf 95 T713d x19, []), (.buf 3 (.int .i64) x20, []), (.buf 3 (.int .i64) x21, []), (.box 1, [.ptr 3 0])]⟩
abbrev Q (x1 : T26b3.T) (x2 x3 x4 x5 x6 x7 x8 x9 x10 x11 x12 x13 x14 x15 : Int) (x16 : List (List (List T1383.T))) (x17 : List Int) (x18 : List T23b6.T) (x19 : List T713d.T) (x20 x21 : List Int) (r : R) := CallQ 11 (out x1 x2 x3 x4 x5 x6 x7 x8 x9 x10 x11 x12 x13 x14 x15 x16 x17 x18 x19 x20 x21 r)
noncomputable def s1 (x1 : T26b3.T) (x2 x3 x4 x5 x6 x7 x8 x9 x10 x11 x12 x13 x14 x15 : Int) (x16 : List (List (List T1383.T))) (x17 : List Int) (x18 : List T23b6.T) (x19 : List T713d.T) (x20 x21 : List Int) (p1 p2 : Int) : St := ⟨19, [(0, .cv (.one (.own 6))), (1, .cv (.one (.fn 79 [] [(10, 0)]))), (7, .cv (.one (.i p1))), (8, .cv (.one (.i p2)))], [(.box 13, (encC .any T26b3 x1)), (.box 13, [.nils, .i x2, .i x3, .i x4, .i x5, .i x6, .i x7, .nils, .nils, .nils, .nils, .nils, .i x8]), (.box 6, [.fn 35 [] [], .fn 36 [] [], .fn 37 [] [], .fn 38 [] [], .fn 39 [] [], .fn 39 [] []]), (.box 13, [.own 4, .i x9, .i x10, .i x11, .i x12, .i x13, .i x14, .own 5, .own 6, .own 7, .own 8, .own 9, .i x15]), (.buf 64 (.slice (.slice T1383)) x16, []), (.buf 3 (.int .i64) x17, []), (.buf 50 T23b6 x18, []), (.buf 95 T713d x19, []), (.buf 3 (.int .i64) x20, []), (.buf 3 (.int .i64) x21, []), (.box 1, [.ptr 3 0])]⟩
noncomputable def b1 (x1 : T26b3.T) (x2 x3 x4 x5 x6 x7 x8 x9 x10 x11 x12 x13 x14 x15 : Int) (x16 : List (List (List T1383.T))) (x17 : List Int) (x18 : List T23b6.T) (x19 : List T713d.T) (x20 x21 : List Int) (L1 : Int → Int → Option R) (k : Nat) (p1 p2 : Int) : Option R :=
  if (decide (p2 < p1)) = true then
  if 0 ≤ p2 then
    if p2 < (x18.length : Int) then
      (i_control_controller_install_1_71d.f k (att T23b6 x18 p2) x1 x2 x3 x4 x5 x6 x7 x8 x9 x10 x11 x12 x13 x14 x15 x16 x17 x18 x19 x20 x21).bind fun y4 =>
        if y4.1 = true then
          some (p2, ())
        else
          L1 p1 (IntKind.i64.wrap (p2 + 1))
    else none
  else none
else
  some ((-1), ())
theorem b1_ok {r x1 x2 x3 x4 x5 x6 x7 x8 x9 x10 x11 x12 x13 x14 x15 x16 x17 x18 x19 x20 x21} {L1 : Int → Int → Option R} {m1 : Nat} (hL1 : ∀ p1 p2, L1 p1 p2 = some r → Gw P 11 (Q x1 x2 x3 x4 x5 x6 x7 x8 x9 x10 x11 x12 x13 x14 x15 x16 x17 x18 x19 x20 x21 r) (Pb c0 21 [] m1) (s1 x1 x2 x3 x4 x5 x6 x7 x8 x9 x10 x11 x12 x13 x14 x15 x16 x17 x18 x19 x20 x21 p1 p2)) {k p1 p2} (H : b1 x1 x2 x3 x4 x5 x6 x7 x8 x9 x10 x11 x12 x13 x14 x15 x16 x17 x18 x19 x20 x21 L1 k p1 p2 = some r) : Gw P 11 (Q x1 x2 x3 x4 x5 x6 x7 x8 x9 x10 x11 x12 x13 x14 x15 x16 x17 x18 x19 x20 x21 r) (Px c0 37 [m1]) (s1 x1 x2 x3 x4 x5 x6 x7 x8 x9 x10 x11 x12 x13 x14 x15 x16 x17 x18 x19 x20 x21 p1 p2) := by
  unfold b1 at H
  refine Rg V_ok 0 [] az ?_
  rcases of_ite H with ⟨hb1, H⟩ | ⟨hb1, H⟩
  · refine C1 hb1 ?_
    refine Rg V_ok 0 [] az ?_
    refine GT (tn [0, 1, 5, 7, 8] 11) (RI ?_)
    obtain ⟨n2, H⟩ := of_if H
    obtain ⟨n3, H⟩ := of_if H
    refine EV V_ok 0 [] 5 (ac n2 (ac n3 az)) ?_
    obtain ⟨y4, e5, H⟩ := of_bind H
    refine CL V_ok i_control_controller_install_1_71d.at_ (i_control_controller_install_1_71d.ok e5) ?_
    refine RN ?_
    rcases of_ite H with ⟨hb6, H⟩ | ⟨hb6, H⟩
    · refine C1 hb6 ?_
      refine Rg V_ok 0 [] az ?_
      obtain rfl := Option.some.inj H
      exact Lq (tn [4] 11)
    · refine C0 hb6 ?_
      refine Rg V_ok 0 [] az ?_
      exact Jm (tn [0, 1, 7, 8] 11) (hL1 p1 (IntKind.i64.wrap (p2 + 1)) H)
  · refine C0 hb1 ?_
    refine Rg V_ok 0 [] az ?_
    obtain rfl := Option.some.inj H
    exact Lq (tn [4] 11)
noncomputable def l1 (x1 : T26b3.T) (x2 x3 x4 x5 x6 x7 x8 x9 x10 x11 x12 x13 x14 x15 : Int) (x16 : List (List (List T1383.T))) (x17 : List Int) (x18 : List T23b6.T) (x19 : List T713d.T) (x20 x21 : List Int) (k : Nat) : Nat → Int → Int → Option R
  | 0, _, _ => none
  | m + 1, p1, p2 => b1 x1 x2 x3 x4 x5 x6 x7 x8 x9 x10 x11 x12 x13 x14 x15 x16 x17 x18 x19 x20 x21 (l1 x1 x2 x3 x4 x5 x6 x7 x8 x9 x10 x11 x12 x13 x14 x15 x16 x17 x18 x19 x20 x21 k m) k p1 p2
theorem l1_ok {r x1 x2 x3 x4 x5 x6 x7 x8 x9 x10 x11 x12 x13 x14 x15 x16 x17 x18 x19 x20 x21} (k : Nat) : ∀ (m1 : Nat) (p1 : Int) (p2 : Int), l1 x1 x2 x3 x4 x5 x6 x7 x8 x9 x10 x11 x12 x13 x14 x15 x16 x17 x18 x19 x20 x21 k m1 p1 p2 = some r → Gw P 11 (Q x1 x2 x3 x4 x5 x6 x7 x8 x9 x10 x11 x12 x13 x14 x15 x16 x17 x18 x19 x20 x21 r) (Pb c0 21 [] m1) (s1 x1 x2 x3 x4 x5 x6 x7 x8 x9 x10 x11 x12 x13 x14 x15 x16 x17 x18 x19 x20 x21 p1 p2)
  | 0, _, _, H => by cases H
  | m1 + 1, p1, p2, H => SU (by kernel_rfl) (b1_ok (l1_ok k m1) H)
noncomputable def f (k : Nat) (x1 : T26b3.T) (x2 x3 x4 x5 x6 x7 x8 x9 x10 x11 x12 x13 x14 x15 : Int) (x16 : List (List (List T1383.T))) (x17 : List Int) (x18 : List T23b6.T) (x19 : List T713d.T) (x20 x21 : List Int) : Option R :=
  l1 x1 x2 x3 x4 x5 x6 x7 x8 x9 x10 x11 x12 x13 x14 x15 x16 x17 x18 x19 x20 x21 k k (x18.length : Int) 0
theorem f_ok {r k x1 x2 x3 x4 x5 x6 x7 x8 x9 x10 x11 x12 x13 x14 x15 x16 x17 x18 x19 x20 x21} (H : f k x1 x2 x3 x4 x5 x6 x7 x8 x9 x10 x11 x12 x13 x14 x15 x16 x17 x18 x19 x20 x21 = some r) : Gw P 11 (Q x1 x2 x3 x4 x5 x6 x7 x8 x9 x10 x11 x12 x13 x14 x15 x16 x17 x18 x19 x20 x21 r) (Px c0 1 []) (s0 x1 x2 x3 x4 x5 x6 x7 x8 x9 x10 x11 x12 x13 x14 x15 x16 x17 x18 x19 x20 x21) := by
  unfold f at H
  refine Rg V_ok 0 [] az ?_
  refine Rg V_ok 0 [] az ?_
  exact LP k (Jm (tn [0, 1, 7, 8] 11) (l1_ok k k (x18.length : Int) 0 H))
theorem ok {r k x1 x2 x3 x4 x5 x6 x7 x8 x9 x10 x11 x12 x13 x14 x15 x16 x17 x18 x19 x20 x21} (H : f k x1 x2 x3 x4 x5 x6 x7 x8 x9 x10 x11 x12 x13 x14 x15 x16 x17 x18 x19 x20 x21 = some r) : W P 11 c0 (s0 x1 x2 x3 x4 x5 x6 x7 x8 x9 x10 x11 x12 x13 x14 x15 x16 x17 x18 x19 x20 x21) (CallQ 11 (out x1 x2 x3 x4 x5 x6 x7 x8 x9 x10 x11 x12 x13 x14 x15 x16 x17 x18 x19 x20 x21 r)) := of_G (f_ok H)
theorem at_ : FnAt P 98 19 c0 Go.Proofs.Tryd.f98.results := fnAt Go.Proofs.Tryd.func98 (by kernel_rfl) (by decide) (by kernel_rfl) (by kernel_rfl)
end i_slices_IndexFunc_Peer_d2b
/-! ### function 78, slices.ContainsFunc[[]wayfinder/api.Peer,wayfinder/api.Peer], where it is called -/

namespace i_slices_ContainsFunc_Peer_d2b
noncomputable def c0 : Code := (Go.Proofs.Tryd.f78.body).getD .skip
noncomputable def V : Env := { tt := tt, Γ := slk [] }
theorem V_ok : EnvOk P V := { ck := tt_ck, fits := slk_nil, mixed := mixed }
abbrev R := (Bool) × Unit
noncomputable def s0 (x1 : T26b3.T) (x2 x3 x4 x5 x6 x7 x8 x9 x10 x11 x12 x13 x14 x15 : Int) (x16 : List (List (List T1383.T))) (x17 : List Int) (x18 : List T23b6.T) (x19 : List T713d.T) (x20 x21 : List Int) : St := ⟨9, [(0, .cv (.one (.own 6))), (1, .cv (.one (.fn 79 [] [(10, 0)])))], [(.box 13, (encC .any T26b3 x1)), (.box 13, [.nils, .i x2, .i x3, .i x4, .i x5, .i x6, .i x7, .nils, .nils, .nils, .nils, .nils, .i x8]), (.box 6, [.fn 35 [] [], .fn 36 [] [], .fn 37 [] [], .fn 38 [] [], .fn 39 [] [], .fn 39 [] []]), (.box 13, [.own 4, .i x9, .i x10, .i x11, .i x12, .i x13, .i x14, .own 5, .own 6, .own 7, .own 8, .own 9, .i x15]), (.buf 64 (.slice (.slice T1383)) x16, []), (.buf 3 (.int .i64) x17, []), (.buf 50 T23b6 x18, []), (.buf 95 T713d x19, []), (.buf 3 (.int .i64) x20, []), (.buf 3 (.int .i64) x21, []), (.box 1, [.ptr 3 0])]⟩
noncomputable def out (x1 : T26b3.T) (x2 x3 x4 x5 x6 x7 x8 x9 x10 x11 x12 x13 x14 x15 : Int) (x16 : List (List (List T1383.T))) (x17 : List Int) (x18 : List T23b6.T) (x19 : List T713d.T) (x20 x21 : List Int) (r : R) : St := ⟨9, [(4, .cv (.one (.bool r.1)))], [(.box 13, (encC .any T26b3 x1)), (.box 13, [.nils, .i x2, .i x3, .i x4, .i x5, .i x6, .i x7, .nils, .nils, .nils, .nils, .nils, .i x8]), (.box 6, [.fn 35 [] [], .fn 36 [] [], .fn 37 [] [], .fn 38 [] [], .fn 39 [] [], .fn 39 [] []]), (.box 13, [.own 4, .i x9, .i x10, .i x11, .i x12, .i x13, .i x14, .own 5, .own 6, .own 7, .own 8, .own 9, .i x15]), (.buf 64 (.slice (.slice T1383)) x16, []), (.buf 3 (.int .i64) x17, []), (.buf 50 T23b6 x18, []), (.buf 95 T713d x19, []), (.buf 3 (.int .i64) x20, []), (.buf 3 (.int .i64) x21, []), (.box 1, [.ptr 3 0])]⟩
abbrev Q (x1 : T26b3.T) (x2 x3 x4 x5 x6 x7 x8 x9 x10 x11 x12 x13 x14 x15 : Int) (x16 : List (List (List T1383.T))) (x17 : List Int) (x18 : List T23b6.T) (x19 : List T713d.T) (x20 x21 : List Int) (r : R) := CallQ 11 (out x1 x2 x3 x4 x5 x6 x7 x8 x9 x10 x11 x12 x13 x14 x15 x16 x17 x18 x19 x20 x21 r)
noncomputable def f (k : Nat) (x1 : T26b3.T) (x2 x3 x4 x5 x6 x7 x8 x9 x10 x11 x12 x13 x14 x15 : Int) (x16 : List (List (List T1383.T))) (x17 : List Int) (x18 : List T23b6.T) (x19 : List T713d.T) (x20 x21 : List Int) : Option R :=
  (i_slices_IndexFunc_Peer_d2b.f k x1 x2 x3 x4 x5 x6 x7 x8 x9 x10 x11 x12 x13 x14 x15 x16 x17 x18 x19 x20 x21).bind fun y1 =>
    some ((decide (y1.1 ≥ (0 : Int))), ())
theorem f_ok {r k x1 x2 x3 x4 x5 x6 x7 x8 x9 x10 x11 x12 x13 x14 x15 x16 x17 x18 x19 x20 x21} (H : f k x1 x2 x3 x4 x5 x6 x7 x8 x9 x10 x11 x12 x13 x14 x15 x16 x17 x18 x19 x20 x21 = some r) : Gw P 11 (Q x1 x2 x3 x4 x5 x6 x7 x8 x9 x10 x11 x12 x13 x14 x15 x16 x17 x18 x19 x20 x21 r) (Px c0 1 []) (s0 x1 x2 x3 x4 x5 x6 x7 x8 x9 x10 x11 x12 x13 x14 x15 x16 x17 x18 x19 x20 x21) := by
  unfold f at H
  refine Rg V_ok 0 [] az ?_
  refine GT (tn [0, 1] 11) (RI ?_)
  refine EV V_ok 0 [] 2 az ?_
  obtain ⟨y1, e2, H⟩ := of_bind H
  refine CL V_ok i_slices_IndexFunc_Peer_d2b.at_ (i_slices_IndexFunc_Peer_d2b.ok e2) ?_
  refine EV V_ok 0 [] 2 az ?_
  refine RN ?_
  obtain rfl := Option.some.inj H
  exact Lq (tn [4] 11)
theorem ok {r k x1 x2 x3 x4 x5 x6 x7 x8 x9 x10 x11 x12 x13 x14 x15 x16 x17 x18 x19 x20 x21} (H : f k x1 x2 x3 x4 x5 x6 x7 x8 x9 x10 x11 x12 x13 x14 x15 x16 x17 x18 x19 x20 x21 = some r) : W P 11 c0 (s0 x1 x2 x3 x4 x5 x6 x7 x8 x9 x10 x11 x12 x13 x14 x15 x16 x17 x18 x19 x20 x21) (CallQ 11 (out x1 x2 x3 x4 x5 x6 x7 x8 x9 x10 x11 x12 x13 x14 x15 x16 x17 x18 x19 x20 x21 r)) := of_G (f_ok H)
theorem at_ : FnAt P 78 9 c0 Go.Proofs.Tryd.f78.results := fnAt Go.Proofs.Tryd.func78 (by kernel_rfl) (by decide) (by kernel_rfl) (by kernel_rfl)
end i_slices_ContainsFunc_Peer_d2b
/-! ### function 80, wayfinder/control.all, where it is called -/

namespace i_control_all_518
noncomputable def c0 : Code := (Go.Proofs.Tryd.f80.body).getD .skip
noncomputable def V : Env := { tt := tt, Γ := slk [] }
theorem V_ok : EnvOk P V := { ck := tt_ck, fits := slk_nil, mixed := mixed }
abbrev R := Unit
noncomputable def s0 (x1 x2 : Int) (x3 : T26b3.T) (x4 x5 x6 x7 x8 x9 x10 x11 x12 x13 x14 x15 x16 x17 : Int) (x18 : List (List (List T1383.T))) (x19 : List Int) (x20 : List T23b6.T) (x21 : List T713d.T) (x22 x23 : List Int) : St := ⟨6, [(0, .cv (.one (.i x1))), (1, .cv (.one (.i x2)))], [(.box 13, (encC .any T26b3 x3)), (.box 13, [.nils, .i x4, .i x5, .i x6, .i x7, .i x8, .i x9, .nils, .nils, .nils, .nils, .nils, .i x10]), (.box 6, [.fn 35 [] [], .fn 36 [] [], .fn 37 [] [], .fn 38 [] [], .fn 39 [] [], .fn 39 [] []]), (.box 13, [.own 4, .i x11, .i x12, .i x13, .i x14, .i x15, .i x16, .own 5, .own 6, .own 7, .own 8, .own 9, .i x17]), (.buf 64 (.slice (.slice T1383)) x18, []), (.buf 3 (.int .i64) x19, []), (.buf 50 T23b6 x20, []), (.buf 95 T713d x21, []), (.buf 3 (.int .i64) x22, []), (.buf 3 (.int .i64) x23, []), (.box 1, [.ptr 3 0])]⟩
noncomputable def out (x1 x2 : Int) (x3 : T26b3.T) (x4 x5 x6 x7 x8 x9 x10 x11 x12 x13 x14 x15 x16 x17 : Int) (x18 : List (List (List T1383.T))) (x19 : List Int) (x20 : List T23b6.T) (x21 : List T713d.T) (x22 x23 : List Int) (r : R) : St := ⟨6, [(4, .cv (.one (.fn 99 [] [(11, 0), (12, 0)])))], [(.box 13, (encC .any T26b3 x3)), (.box 13, [.nils, .i x4, .i x5, .i x6, .i x7, .i x8, .i x9, .nils, .nils, .nils, .nils, .nils, .i x10]), (.box 6, [.fn 35 [] [], .fn 36 [] [], .fn 37 [] [], .fn 38 [] [], .fn 39 [] [], .fn 39 [] []]), (.box 13, [.own 4, .i x11, .i x12, .i x13, .i x14, .i x15, .i x16, .own 5, .own 6, .own 7, .own 8, .own 9, .i x17]), (.buf 64 (.slice (.slice T1383)) x18, []), (.buf 3 (.int .i64) x19, []), (.buf 50 T23b6 x20, []), (.buf 95 T713d x21, []), (.buf 3 (.int .i64) x22, []), (.buf 3 (.int .i64) x23, []), (.box 1, [.ptr 3 0]), (.box 1, [.i x1]), (.box 1, [.i x2])]⟩
abbrev Q (x1 x2 : Int) (x3 : T26b3.T) (x4 x5 x6 x7 x8 x9 x10 x11 x12 x13 x14 x15 x16 x17 : Int) (x18 : List (List (List T1383.T))) (x19 : List Int) (x20 : List T23b6.T) (x21 : List T713d.T) (x22 x23 : List Int) (r : R) := CallQ 11 (out x1 x2 x3 x4 x5 x6 x7 x8 x9 x10 x11 x12 x13 x14 x15 x16 x17 x18 x19 x20 x21 x22 x23 r)
noncomputable def f (k : Nat) (x1 x2 : Int) (x3 : T26b3.T) (x4 x5 x6 x7 x8 x9 x10 x11 x12 x13 x14 x15 x16 x17 : Int) (x18 : List (List (List T1383.T))) (x19 : List Int) (x20 : List T23b6.T) (x21 : List T713d.T) (x22 x23 : List Int) : Option R :=
  some ()
theorem f_ok {r k x1 x2 x3 x4 x5 x6 x7 x8 x9 x10 x11 x12 x13 x14 x15 x16 x17 x18 x19 x20 x21 x22 x23} (H : f k x1 x2 x3 x4 x5 x6 x7 x8 x9 x10 x11 x12 x13 x14 x15 x16 x17 x18 x19 x20 x21 x22 x23 = some r) : Gw P 11 (Q x1 x2 x3 x4 x5 x6 x7 x8 x9 x10 x11 x12 x13 x14 x15 x16 x17 x18 x19 x20 x21 x22 x23 r) (Px c0 1 []) (s0 x1 x2 x3 x4 x5 x6 x7 x8 x9 x10 x11 x12 x13 x14 x15 x16 x17 x18 x19 x20 x21 x22 x23) := by
  unfold f at H
  refine Rg V_ok 2 [(0, hb 11), (1, hb 12)] az ?_
  refine Rg V_ok 0 [] az ?_
  obtain rfl := Option.some.inj H
  exact Lq (tn [4] 13)
theorem ok {r k x1 x2 x3 x4 x5 x6 x7 x8 x9 x10 x11 x12 x13 x14 x15 x16 x17 x18 x19 x20 x21 x22 x23} (H : f k x1 x2 x3 x4 x5 x6 x7 x8 x9 x10 x11 x12 x13 x14 x15 x16 x17 x18 x19 x20 x21 x22 x23 = some r) : W P 11 c0 (s0 x1 x2 x3 x4 x5 x6 x7 x8 x9 x10 x11 x12 x13 x14 x15 x16 x17 x18 x19 x20 x21 x22 x23) (CallQ 11 (out x1 x2 x3 x4 x5 x6 x7 x8 x9 x10 x11 x12 x13 x14 x15 x16 x17 x18 x19 x20 x21 x22 x23 r)) := of_G (f_ok H)
theorem at_ : FnAt P 80 6 c0 Go.Proofs.Tryd.f80.results := fnAt Go.Proofs.Tryd.func80 (by kernel_rfl) (by decide) (by kernel_rfl) (by kernel_rfl)
end i_control_all_518
/-! ### function 99, wayfinder/control.all$1, where it is called -/

namespace i_control_all_1_8b1
noncomputable def c0 : Code := (Go.Proofs.Tryd.f99.body).getD .skip
noncomputable def V : Env := { tt := tt, Γ := slk [] }
theorem V_ok : EnvOk P V := { ck := tt_ck, fits := slk_nil, mixed := mixed }
abbrev R := (List T4414.T) × Unit
noncomputable def s0 (x1 : Int) (x2 : T26b3.T) (x3 x4 x5 x6 x7 x8 x9 x10 x11 x12 x13 x14 x15 x16 : Int) (x17 : List (List (List T1383.T))) (x18 : List Int) (x19 : List T23b6.T) (x20 : List T713d.T) (x21 x22 : List Int) (x23 x24 : Int) : St := ⟨9, [(0, .cv (.one (.i x1))), (1, .cv (.one (.ptr 11 0))), (2, .cv (.one (.ptr 12 0)))], [(.box 13, (encC .any T26b3 x2)), (.box 13, [.nils, .i x3, .i x4, .i x5, .i x6, .i x7, .i x8, .nils, .nils, .nils, .nils, .nils, .i x9]), (.box 6, [.fn 35 [] [], .fn 36 [] [], .fn 37 [] [], .fn 38 [] [], .fn 39 [] [], .fn 39 [] []]), (.box 13, [.own 4, .i x10, .i x11, .i x12, .i x13, .i x14, .i x15, .own 5, .own 6, .own 7, .own 8, .own 9, .i x16]), (.buf 64 (.slice (.slice T1383)) x17, []), (.buf 3 (.int .i64) x18, []), (.buf 50 T23b6 x19, []), (.buf 95 T713d x20, []), (.buf 3 (.int .i64) x21, []), (.buf 3 (.int .i64) x22, []), (.box 1, [.ptr 3 0]), (.box 1, [.i x23]), (.box 1, [.i x24])]⟩
noncomputable def out (x2 : T26b3.T) (x3 x4 x5 x6 x7 x8 x9 x10 x11 x12 x13 x14 x15 x16 : Int) (x17 : List (List (List T1383.T))) (x18 : List Int) (x19 : List T23b6.T) (x20 : List T713d.T) (x21 x22 : List Int) (x23 x24 : Int) (r : R) : St := ⟨9, [(4, .cv (.one (.sl T4414 r.1 .full)))], [(.box 13, (encC .any T26b3 x2)), (.box 13, [.nils, .i x3, .i x4, .i x5, .i x6, .i x7, .i x8, .nils, .nils, .nils, .nils, .nils, .i x9]), (.box 6, [.fn 35 [] [], .fn 36 [] [], .fn 37 [] [], .fn 38 [] [], .fn 39 [] [], .fn 39 [] []]), (.box 13, [.own 4, .i x10, .i x11, .i x12, .i x13, .i x14, .i x15, .own 5, .own 6, .own 7, .own 8, .own 9, .i x16]), (.buf 64 (.slice (.slice T1383)) x17, []), (.buf 3 (.int .i64) x18, []), (.buf 50 T23b6 x19, []), (.buf 95 T713d x20, []), (.buf 3 (.int .i64) x21, []), (.buf 3 (.int .i64) x22, []), (.box 1, [.ptr 3 0]), (.box 1, [.i x23]), (.box 1, [.i x24])]⟩
abbrev Q (x2 : T26b3.T) (x3 x4 x5 x6 x7 x8 x9 x10 x11 x12 x13 x14 x15 x16 : Int) (x17 : List (List (List T1383.T))) (x18 : List Int) (x19 : List T23b6.T) (x20 : List T713d.T) (x21 x22 : List Int) (x23 x24 : Int) (r : R) := CallQ 13 (out x2 x3 x4 x5 x6 x7 x8 x9 x10 x11 x12 x13 x14 x15 x16 x17 x18 x19 x20 x21 x22 x23 x24 r)
noncomputable def f (k : Nat) (x1 : Int) (x2 : T26b3.T) (x3 x4 x5 x6 x7 x8 x9 x10 x11 x12 x13 x14 x15 x16 : Int) (x17 : List (List (List T1383.T))) (x18 : List Int) (x19 : List T23b6.T) (x20 : List T713d.T) (x21 x22 : List Int) (x23 x24 : Int) : Option R :=
  some ([(x23, (0, (0, (x24, ((0, 0), (0, (0, (0, 0))))))))], ())
theorem f_ok {r k x1 x2 x3 x4 x5 x6 x7 x8 x9 x10 x11 x12 x13 x14 x15 x16 x17 x18 x19 x20 x21 x22 x23 x24} (H : f k x1 x2 x3 x4 x5 x6 x7 x8 x9 x10 x11 x12 x13 x14 x15 x16 x17 x18 x19 x20 x21 x22 x23 x24 = some r) : Gw P 13 (Q x2 x3 x4 x5 x6 x7 x8 x9 x10 x11 x12 x13 x14 x15 x16 x17 x18 x19 x20 x21 x22 x23 x24 r) (Px c0 1 []) (s0 x1 x2 x3 x4 x5 x6 x7 x8 x9 x10 x11 x12 x13 x14 x15 x16 x17 x18 x19 x20 x21 x22 x23 x24) := by
  unfold f at H
  refine Rg V_ok 0 [] az ?_
  refine Rg V_ok 0 [] az ?_
  obtain rfl := Option.some.inj H
  exact Lq (tn [4] 13)
theorem ok {r k x1 x2 x3 x4 x5 x6 x7 x8 x9 x10 x11 x12 x13 x14 x15 x16 x17 x18 x19 x20 x21 x22 x23 x24} (H : f k x1 x2 x3 x4 x5 x6 x7 x8 x9 x10 x11 x12 x13 x14 x15 x16 x17 x18 x19 x20 x21 x22 x23 x24 = some r) : W P 13 c0 (s0 x1 x2 x3 x4 x5 x6 x7 x8 x9 x10 x11 x12 x13 x14 x15 x16 x17 x18 x19 x20 x21 x22 x23 x24) (CallQ 13 (out x2 x3 x4 x5 x6 x7 x8 x9 x10 x11 x12 x13 x14 x15 x16 x17 x18 x19 x20 x21 x22 x23 x24 r)) := of_G (f_ok H)
theorem at_ : FnAt P 99 9 c0 Go.Proofs.Tryd.f99.results := fnAt Go.Proofs.Tryd.func99 (by kernel_rfl) (by decide) (by kernel_rfl) (by kernel_rfl)
end i_control_all_1_8b1
/-! ### function 75, (*wayfinder/control.controller).tell, where it is called -/

namespace i_control_controller_tell_cd9
noncomputable def c0 : Code := (Go.Proofs.Tryd.f75.body).getD .skip
noncomputable def V : Env := { tt := tt, Γ := slk [(67, f_plan_Push.S)] }
theorem V_ok : EnvOk P V := { ck := tt_ck, fits := slk_cons f_plan_Push.fits (slk_nil), mixed := mixed }
abbrev R := (List T23b6.T) × Unit
noncomputable def s0 (x1 : T26b3.T) (x2 x3 x4 x5 x6 x7 x8 x9 x10 x11 x12 x13 x14 x15 : Int) (x16 : List (List (List T1383.T))) (x17 : List Int) (x18 : List T23b6.T) (x19 : List T713d.T) (x20 x21 : List Int) (x22 x23 : Int) : St := ⟨36, [(0, .cv (.one (.ptr 3 0))), (1, .cv (.one (.fn 99 [] [(11, 0), (12, 0)])))], [(.box 13, (encC .any T26b3 x1)), (.box 13, [.nils, .i x2, .i x3, .i x4, .i x5, .i x6, .i x7, .nils, .nils, .nils, .nils, .nils, .i x8]), (.box 6, [.fn 35 [] [], .fn 36 [] [], .fn 37 [] [], .fn 38 [] [], .fn 39 [] [], .fn 39 [] []]), (.box 13, [.own 4, .i x9, .i x10, .i x11, .i x12, .i x13, .i x14, .own 5, .own 6, .own 7, .own 8, .own 9, .i x15]), (.buf 64 (.slice (.slice T1383)) x16, []), (.buf 3 (.int .i64) x17, []), (.buf 50 T23b6 x18, []), (.buf 95 T713d x19, []), (.buf 3 (.int .i64) x20, []), (.buf 3 (.int .i64) x21, []), (.box 1, [.ptr 3 0]), (.box 1, [.i x22]), (.box 1, [.i x23])]⟩
noncomputable def out (x1 : T26b3.T) (x2 x3 x4 x5 x6 x7 x8 x9 x10 x11 x12 x13 x14 x15 : Int) (x16 : List (List (List T1383.T))) (x17 : List Int) (x19 : List T713d.T) (x20 x21 : List Int) (x22 x23 : Int) (r : R) : St := ⟨36, [], [(.box 13, (encC .any T26b3 x1)), (.box 13, [.nils, .i x2, .i x3, .i x4, .i x5, .i x6, .i x7, .nils, .nils, .nils, .nils, .nils, .i x8]), (.box 6, [.fn 35 [] [], .fn 36 [] [], .fn 37 [] [], .fn 38 [] [], .fn 39 [] [], .fn 39 [] []]), (.box 13, [.own 4, .i x9, .i x10, .i x11, .i x12, .i x13, .i x14, .own 5, .own 6, .own 7, .own 8, .own 9, .i x15]), (.buf 64 (.slice (.slice T1383)) x16, []), (.buf 3 (.int .i64) x17, []), (.buf 50 T23b6 r.1, []), (.buf 95 T713d x19, []), (.buf 3 (.int .i64) x20, []), (.buf 3 (.int .i64) x21, []), (.box 1, [.ptr 3 0]), (.box 1, [.i x22]), (.box 1, [.i x23])]⟩
abbrev Q (x1 : T26b3.T) (x2 x3 x4 x5 x6 x7 x8 x9 x10 x11 x12 x13 x14 x15 : Int) (x16 : List (List (List T1383.T))) (x17 : List Int) (x19 : List T713d.T) (x20 x21 : List Int) (x22 x23 : Int) (r : R) := CallQ 13 (out x1 x2 x3 x4 x5 x6 x7 x8 x9 x10 x11 x12 x13 x14 x15 x16 x17 x19 x20 x21 x22 x23 r)
noncomputable def s1 (x1 : T26b3.T) (x2 x3 x4 x5 x6 x7 x8 x9 x10 x11 x12 x13 x14 x15 : Int) (x16 : List (List (List T1383.T))) (x17 : List Int) (x19 : List T713d.T) (x20 x21 : List Int) (x22 x23 p1 p2 : Int) (p20 : List T23b6.T) : St := ⟨36, [(0, .cv (.one (.ptr 3 0))), (1, .cv (.one (.fn 99 [] [(11, 0), (12, 0)]))), (10, .cv (.one (.i p1))), (11, .cv (.one (.i p2)))], [(.box 13, (encC .any T26b3 x1)), (.box 13, [.nils, .i x2, .i x3, .i x4, .i x5, .i x6, .i x7, .nils, .nils, .nils, .nils, .nils, .i x8]), (.box 6, [.fn 35 [] [], .fn 36 [] [], .fn 37 [] [], .fn 38 [] [], .fn 39 [] [], .fn 39 [] []]), (.box 13, [.own 4, .i x9, .i x10, .i x11, .i x12, .i x13, .i x14, .own 5, .own 6, .own 7, .own 8, .own 9, .i x15]), (.buf 64 (.slice (.slice T1383)) x16, []), (.buf 3 (.int .i64) x17, []), (.buf 50 T23b6 p20, []), (.buf 95 T713d x19, []), (.buf 3 (.int .i64) x20, []), (.buf 3 (.int .i64) x21, []), (.box 1, [.ptr 3 0]), (.box 1, [.i x22]), (.box 1, [.i x23])]⟩
noncomputable def b1 (x1 : T26b3.T) (x2 x3 x4 x5 x6 x7 x8 x9 x10 x11 x12 x13 x14 x15 : Int) (x16 : List (List (List T1383.T))) (x17 : List Int) (x19 : List T713d.T) (x20 x21 : List Int) (x22 x23 : Int) (L1 : Int → Int → List T23b6.T → Option R) (k : Nat) (p1 p2 : Int) (p20 : List T23b6.T) : Option R :=
  if (decide (p2 < p1)) = true then
  if 0 ≤ p2 then
    if p2 < (p20.length : Int) then
      (i_control_all_1_8b1.f k p2 x1 x2 x3 x4 x5 x6 x7 x8 x9 x10 x11 x12 x13 x14 x15 x16 x17 p20 x19 x20 x21 x22 x23).bind fun y4 =>
        (f_plan_Push.f k (((att T23b6 p20 p2).2).2) y4.1).bind fun y6 =>
            L1 p1 (IntKind.i64.wrap (p2 + 1)) (p20.set p2.toNat ((att T23b6 p20 p2).1, (((att T23b6 p20 p2).2).1, y6.1)))
    else none
  else none
else
  some (p20, ())
theorem b1_ok {r x1 x2 x3 x4 x5 x6 x7 x8 x9 x10 x11 x12 x13 x14 x15 x16 x17 x19 x20 x21 x22 x23} {L1 : Int → Int → List T23b6.T → Option R} {m1 : Nat} (hL1 : ∀ p1 p2 p20, L1 p1 p2 p20 = some r → Gw P 13 (Q x1 x2 x3 x4 x5 x6 x7 x8 x9 x10 x11 x12 x13 x14 x15 x16 x17 x19 x20 x21 x22 x23 r) (Pb c0 5 [] m1) (s1 x1 x2 x3 x4 x5 x6 x7 x8 x9 x10 x11 x12 x13 x14 x15 x16 x17 x19 x20 x21 x22 x23 p1 p2 p20)) {k p1 p2 p20} (H : b1 x1 x2 x3 x4 x5 x6 x7 x8 x9 x10 x11 x12 x13 x14 x15 x16 x17 x19 x20 x21 x22 x23 L1 k p1 p2 p20 = some r) : Gw P 13 (Q x1 x2 x3 x4 x5 x6 x7 x8 x9 x10 x11 x12 x13 x14 x15 x16 x17 x19 x20 x21 x22 x23 r) (Px c0 9 [m1]) (s1 x1 x2 x3 x4 x5 x6 x7 x8 x9 x10 x11 x12 x13 x14 x15 x16 x17 x19 x20 x21 x22 x23 p1 p2 p20) := by
  unfold b1 at H
  refine Rg V_ok 0 [] az ?_
  rcases of_ite H with ⟨hb1, H⟩ | ⟨hb1, H⟩
  · refine C1 hb1 ?_
    refine Rg V_ok 0 [] az ?_
    obtain ⟨n2, H⟩ := of_if H
    obtain ⟨n3, H⟩ := of_if H
    obtain ⟨y4, e5, H⟩ := of_bind H
    obtain ⟨y6, e7, H⟩ := of_bind H
    let x : Nx := (Px c0 409 [m1])
    let t0 : St := ⟨36, [(0, .cv (.one (.ptr 3 0))), (1, .cv (.one (.fn 99 [] [(11, 0), (12, 0)]))), (4, .cv (.one (.i p2))), (10, .cv (.one (.i p1))), (11, .cv (.one (.i p2)))], [(.box 13, (encC .any T26b3 x1)), (.box 13, [.nils, .i x2, .i x3, .i x4, .i x5, .i x6, .i x7, .nils, .nils, .nils, .nils, .nils, .i x8]), (.box 6, [.fn 35 [] [], .fn 36 [] [], .fn 37 [] [], .fn 38 [] [], .fn 39 [] [], .fn 39 [] []]), (.box 13, [.own 4, .i x9, .i x10, .i x11, .i x12, .i x13, .i x14, .own 5, .own 6, .own 7, .own 8, .own 9, .i x15]), (.buf 64 (.slice (.slice T1383)) x16, []), (.buf 3 (.int .i64) x17, []), (.buf 50 T23b6 p20, []), (.buf 95 T713d x19, []), (.buf 3 (.int .i64) x20, []), (.buf 3 (.int .i64) x21, []), (.box 1, [.ptr 3 0]), (.box 1, [.i x22]), (.box 1, [.i x23])]⟩
    refine Jm (x' := x) (τ := t0) (tn [0, 1, 4, 10, 11] 13) ?_
    let Φ := phiX P 13 (Q x1 x2 x3 x4 x5 x6 x7 x8 x9 x10 x11 x12 x13 x14 x15 x16 x17 x19 x20 x21 x22 x23 r) x
    let t1 : St := stpS V x 0 [] 0 (tn [0, 1, 4, 10, 11, 14] 13) t0
    let t2 : St := stpS V x 0 [] 1 (tn [0, 1, 4, 10, 11, 15] 13) t1
    let t3 : St := stpS V x 0 [] 2 (tn [0, 1, 4, 10, 11, 16] 13) t2
    let t4 : St := stpS V x 0 [] 3 (tn [0, 1, 4, 10, 11, 17] 13) t3
    let t5 : St := stpS V x 0 [] 5 (tn [0, 1, 4, 10, 11, 17, 19] 13) t4
    let t6 : St := stpS V x 0 [] 6 (tn [0, 1, 4, 10, 11, 17, 19, 20] 13) t5
    let t7 : St := stpS V x 0 [] 7 (tn [0, 1, 4, 10, 11, 17, 19, 21] 13) t6
    let t8 : St := stpS V x 0 [] 8 (tn [0, 1, 4, 10, 11, 17, 19, 22] 13) t7
    let t9 : St := stpS V x 0 [] 9 (tn [0, 1, 4, 10, 11, 17, 19, 23] 13) t8
    let t10 : St := stpS V x 0 [] 11 (tn [0, 1, 4, 10, 11, 17, 19, 23, 25] 13) t9
    let t11 : St := stpS V x 0 [] 15 (tn [0, 1, 4, 10, 11, 17, 19, 23, 25, 29] 13) t10
    let t12 : St := stpS V x 0 [] 16 (tn [0, 1, 10, 11, 17, 19, 23, 25, 29, 30] 13) t11
    let t13 : St := stpS V x 0 [] 4 (tn [0, 1, 10, 11, 18, 19, 23, 25, 29, 30] 13) t12
    let t14 : St := stpS V x 0 [] 10 (tn [0, 1, 10, 11, 17, 19, 24, 25, 29, 30] 13) t12
    let t15 : St := clT V.tt x 17 Go.Proofs.Tryd.f99.results (tn [0, 1, 10, 11, 17, 19, 23, 25, 31] 13) t12 (i_control_all_1_8b1.out x1 x2 x3 x4 x5 x6 x7 x8 x9 x10 x11 x12 x13 x14 x15 x16 x17 p20 x19 x20 x21 x22 x23 y4)
    let t16 : St := stpS V x 0 [] 10 (tn [0, 1, 10, 11, 18, 19, 24, 25, 29, 30] 13) t13
    let t17 : St := clT V.tt x 17 Go.Proofs.Tryd.f99.results (tn [0, 1, 10, 11, 18, 19, 23, 25, 31] 13) t13 (i_control_all_1_8b1.out x1 x2 x3 x4 x5 x6 x7 x8 x9 x10 x11 x12 x13 x14 x15 x16 x17 p20 x19 x20 x21 x22 x23 y4)
    let t18 : St := stpS V x 0 [] 12 (tn [0, 1, 10, 11, 17, 19, 26, 29, 30] 13) t14
    let t19 : St := clT V.tt x 17 Go.Proofs.Tryd.f99.results (tn [0, 1, 10, 11, 17, 19, 24, 25, 31] 13) t14 (i_control_all_1_8b1.out x1 x2 x3 x4 x5 x6 x7 x8 x9 x10 x11 x12 x13 x14 x15 x16 x17 p20 x19 x20 x21 x22 x23 y4)
    let t20 : St := stpS V x 0 [] 12 (tn [0, 1, 10, 11, 18, 19, 26, 29, 30] 13) t16
    let t21 : St := clT V.tt x 17 Go.Proofs.Tryd.f99.results (tn [0, 1, 10, 11, 18, 19, 24, 25, 31] 13) t16 (i_control_all_1_8b1.out x1 x2 x3 x4 x5 x6 x7 x8 x9 x10 x11 x12 x13 x14 x15 x16 x17 p20 x19 x20 x21 x22 x23 y4)
    let t22 : St := stpS V x 0 [] 13 (tn [0, 1, 10, 11, 17, 19, 27, 29, 30] 13) t18
    let t23 : St := stpS V x 0 [] 12 (tn [0, 1, 10, 11, 17, 19, 26, 31] 13) t19
    let t24 : St := stpS V x 0 [] 13 (tn [0, 1, 10, 11, 18, 19, 27, 29, 30] 13) t20
    let t25 : St := stpS V x 0 [] 12 (tn [0, 1, 10, 11, 18, 19, 26, 31] 13) t21
    let t26 : St := stpS V x 0 [] 14 (tn [0, 1, 10, 11, 17, 19, 28, 29, 30] 13) t22
    let t27 : St := clT V.tt x 17 Go.Proofs.Tryd.f99.results (tn [0, 1, 10, 11, 17, 19, 27, 31] 13) t22 (i_control_all_1_8b1.out x1 x2 x3 x4 x5 x6 x7 x8 x9 x10 x11 x12 x13 x14 x15 x16 x17 p20 x19 x20 x21 x22 x23 y4)
    let t28 : St := stpS V x 0 [] 14 (tn [0, 1, 10, 11, 18, 19, 28, 29, 30] 13) t24
    let t29 : St := clT V.tt x 17 Go.Proofs.Tryd.f99.results (tn [0, 1, 10, 11, 18, 19, 27, 31] 13) t24 (i_control_all_1_8b1.out x1 x2 x3 x4 x5 x6 x7 x8 x9 x10 x11 x12 x13 x14 x15 x16 x17 p20 x19 x20 x21 x22 x23 y4)
    let t30 : St := clT V.tt x 17 Go.Proofs.Tryd.f99.results (tn [0, 1, 10, 11, 17, 19, 28, 31] 13) t26 (i_control_all_1_8b1.out x1 x2 x3 x4 x5 x6 x7 x8 x9 x10 x11 x12 x13 x14 x15 x16 x17 p20 x19 x20 x21 x22 x23 y4)
    let t31 : St := clT V.tt x 17 Go.Proofs.Tryd.f99.results (tn [0, 1, 10, 11, 18, 19, 28, 31] 13) t28 (i_control_all_1_8b1.out x1 x2 x3 x4 x5 x6 x7 x8 x9 x10 x11 x12 x13 x14 x15 x16 x17 p20 x19 x20 x21 x22 x23 y4)
    let t32 : St := stpS V x 0 [(18, hr f_plan_Push.S y6)] 18 (tn [0, 1, 10, 11, 17, 19, 32] 13) t30
    let t33 : St := stpS V x 0 [(18, hr f_plan_Push.S y6)] 18 (tn [0, 1, 10, 11, 18, 19, 32] 13) t31
    let t34 : St := stpS V x 0 [] 19 (tn [0, 1, 10, 11, 32, 33] 13) t33
    let t35 : St := stpS V x 0 [] 20 (tn [0, 1, 10, 11, 32, 34] 13) t34
    let t36 : St := stpS V x 0 [] 21 (tn [0, 1, 10, 11] 13) t35
    have w36 : WA P 13 (opsX x) 0 (bs 22 4194303) Φ t36 := by
      refine WA_nil (by kernel_rfl) (RAn (by kernel_rfl) ?_)
      refine Rg V_ok 0 [] az ?_
      exact Jm (tn [0, 1, 10, 11] 13) (hL1 p1 (IntKind.i64.wrap (p2 + 1)) (p20.set p2.toNat ((att T23b6 p20 p2).1, (((att T23b6 p20 p2).2).1, y6.1))) H)
    have w35 : WA P 13 (opsX x) 1 (bs 22 2097151) Φ t35 := WAs (an (WE V_ok 0 [] 21 (tn [0, 1, 10, 11] 13) az w36) aN)
    have w34 : WA P 13 (opsX x) 2 (bs 22 1048575) Φ t34 := WT V_ok [] 20 (tn [0, 1, 10, 11, 32, 34] 13) az w35
    have w33 : WA P 13 (opsX x) 3 (bs 22 524287) Φ t33 := WAs (an (WE V_ok 0 [] 19 (tn [0, 1, 10, 11, 32, 33] 13) (ac n2 (ac n3 az)) w34) aN)
    have w32 : WA P 13 (opsX x) 4 (bs 22 524271) Φ t32 := WAs (an (WE V_ok 0 [] 4 (tn [0, 1, 10, 11, 18, 19, 32] 13) az w33) aN)
    have w31 : WA P 13 (opsX x) 4 (bs 22 262143) Φ t31 := WAs (an (WE V_ok 0 [(18, hr f_plan_Push.S y6)] 18 (tn [0, 1, 10, 11, 18, 19, 32] 13) (ac (f_plan_Push.rl e7) az) w33) aN)
    have w30 : WA P 13 (opsX x) 5 (bs 22 262127) Φ t30 := WAs (an (WE V_ok 0 [] 4 (tn [0, 1, 10, 11, 18, 19, 28, 31] 13) az w31) (an (WE V_ok 0 [(18, hr f_plan_Push.S y6)] 18 (tn [0, 1, 10, 11, 17, 19, 32] 13) (ac (f_plan_Push.rl e7) az) w32) aN))
    have w29 : WA P 13 (opsX x) 5 (bs 22 245759) Φ t29 := WAs (an (WE V_ok 0 [] 14 (tn [0, 1, 10, 11, 18, 19, 28, 31] 13) az w31) aN)
    have w28 : WA P 13 (opsX x) 5 (bs 22 131071) Φ t28 := WAs (an (WC V_ok 17 (tn [0, 1, 10, 11, 18, 19, 28, 31] 13) i_control_all_1_8b1.at_ (i_control_all_1_8b1.ok e5) w31) aN)
    have w27 : WA P 13 (opsX x) 6 (bs 22 245743) Φ t27 := WAs (an (WE V_ok 0 [] 4 (tn [0, 1, 10, 11, 18, 19, 27, 31] 13) az w29) (an (WE V_ok 0 [] 14 (tn [0, 1, 10, 11, 17, 19, 28, 31] 13) az w30) aN))
    have w26 : WA P 13 (opsX x) 6 (bs 22 131055) Φ t26 := WAs (an (WE V_ok 0 [] 4 (tn [0, 1, 10, 11, 18, 19, 28, 29, 30] 13) az w28) (an (WC V_ok 17 (tn [0, 1, 10, 11, 17, 19, 28, 31] 13) i_control_all_1_8b1.at_ (i_control_all_1_8b1.ok e5) w30) aN))
    have w25 : WA P 13 (opsX x) 6 (bs 22 237567) Φ t25 := WT V_ok [] 13 (tn [0, 1, 10, 11, 18, 19, 27, 31] 13) az w29
    have w24 : WA P 13 (opsX x) 6 (bs 22 114687) Φ t24 := WAs (an (WE V_ok 0 [] 14 (tn [0, 1, 10, 11, 18, 19, 28, 29, 30] 13) az w28) (an (WC V_ok 17 (tn [0, 1, 10, 11, 18, 19, 27, 31] 13) i_control_all_1_8b1.at_ (i_control_all_1_8b1.ok e5) w29) aN))
    have w23 : WA P 13 (opsX x) 7 (bs 22 237551) Φ t23 := WT V_ok [] 13 (tn [0, 1, 10, 11, 17, 19, 27, 31] 13) az w27
    have w22 : WA P 13 (opsX x) 7 (bs 22 114671) Φ t22 := WAs (an (WE V_ok 0 [] 4 (tn [0, 1, 10, 11, 18, 19, 27, 29, 30] 13) az w24) (an (WE V_ok 0 [] 14 (tn [0, 1, 10, 11, 17, 19, 28, 29, 30] 13) az w26) (an (WC V_ok 17 (tn [0, 1, 10, 11, 17, 19, 27, 31] 13) i_control_all_1_8b1.at_ (i_control_all_1_8b1.ok e5) w27) aN)))
    have w21 : WA P 13 (opsX x) 7 (bs 22 233471) Φ t21 := WAs (an (WE V_ok 0 [] 12 (tn [0, 1, 10, 11, 18, 19, 26, 31] 13) (ac n2 (ac n3 az)) w25) aN)
    have w20 : WA P 13 (opsX x) 7 (bs 22 106495) Φ t20 := WT V_ok [] 13 (tn [0, 1, 10, 11, 18, 19, 27, 29, 30] 13) az w24
    have w19 : WA P 13 (opsX x) 8 (bs 22 233455) Φ t19 := WAs (an (WE V_ok 0 [] 4 (tn [0, 1, 10, 11, 18, 19, 24, 25, 31] 13) az w21) (an (WE V_ok 0 [] 12 (tn [0, 1, 10, 11, 17, 19, 26, 31] 13) (ac n2 (ac n3 az)) w23) aN))
    have w18 : WA P 13 (opsX x) 8 (bs 22 106479) Φ t18 := WT V_ok [] 13 (tn [0, 1, 10, 11, 17, 19, 27, 29, 30] 13) az w22
    have w17 : WA P 13 (opsX x) 8 (bs 22 232447) Φ t17 := WAs (an (WE V_ok 0 [] 10 (tn [0, 1, 10, 11, 18, 19, 24, 25, 31] 13) az w21) aN)
    have w16 : WA P 13 (opsX x) 8 (bs 22 102399) Φ t16 := WAs (an (WE V_ok 0 [] 12 (tn [0, 1, 10, 11, 18, 19, 26, 29, 30] 13) (ac n2 (ac n3 az)) w20) (an (WC V_ok 17 (tn [0, 1, 10, 11, 18, 19, 24, 25, 31] 13) i_control_all_1_8b1.at_ (i_control_all_1_8b1.ok e5) w21) aN))
    have w15 : WA P 13 (opsX x) 9 (bs 22 232431) Φ t15 := WAs (an (WE V_ok 0 [] 4 (tn [0, 1, 10, 11, 18, 19, 23, 25, 31] 13) az w17) (an (WE V_ok 0 [] 10 (tn [0, 1, 10, 11, 17, 19, 24, 25, 31] 13) az w19) aN))
    have w14 : WA P 13 (opsX x) 9 (bs 22 102383) Φ t14 := WAs (an (WE V_ok 0 [] 4 (tn [0, 1, 10, 11, 18, 19, 24, 25, 29, 30] 13) az w16) (an (WE V_ok 0 [] 12 (tn [0, 1, 10, 11, 17, 19, 26, 29, 30] 13) (ac n2 (ac n3 az)) w18) (an (WC V_ok 17 (tn [0, 1, 10, 11, 17, 19, 24, 25, 31] 13) i_control_all_1_8b1.at_ (i_control_all_1_8b1.ok e5) w19) aN)))
    have w13 : WA P 13 (opsX x) 9 (bs 22 101375) Φ t13 := WAs (an (WE V_ok 0 [] 10 (tn [0, 1, 10, 11, 18, 19, 24, 25, 29, 30] 13) az w16) (an (WC V_ok 17 (tn [0, 1, 10, 11, 18, 19, 23, 25, 31] 13) i_control_all_1_8b1.at_ (i_control_all_1_8b1.ok e5) w17) aN))
    have w12 : WA P 13 (opsX x) 10 (bs 22 101359) Φ t12 := WAs (an (WE V_ok 0 [] 4 (tn [0, 1, 10, 11, 18, 19, 23, 25, 29, 30] 13) az w13) (an (WE V_ok 0 [] 10 (tn [0, 1, 10, 11, 17, 19, 24, 25, 29, 30] 13) az w14) (an (WC V_ok 17 (tn [0, 1, 10, 11, 17, 19, 23, 25, 31] 13) i_control_all_1_8b1.at_ (i_control_all_1_8b1.ok e5) w15) aN)))
    have w11 : WA P 13 (opsX x) 11 (bs 22 35823) Φ t11 := WT V_ok [] 16 (tn [0, 1, 10, 11, 17, 19, 23, 25, 29, 30] 13) az w12
    have w10 : WA P 13 (opsX x) 12 (bs 22 3055) Φ t10 := WT V_ok [] 15 (tn [0, 1, 4, 10, 11, 17, 19, 23, 25, 29] 13) az w11
    have w9 : WA P 13 (opsX x) 13 (bs 22 1007) Φ t9 := WT V_ok [] 11 (tn [0, 1, 4, 10, 11, 17, 19, 23, 25] 13) az w10
    have w8 : WA P 13 (opsX x) 14 (bs 22 495) Φ t8 := WT V_ok [] 9 (tn [0, 1, 4, 10, 11, 17, 19, 23] 13) az w9
    have w7 : WA P 13 (opsX x) 15 (bs 22 239) Φ t7 := WT V_ok [] 8 (tn [0, 1, 4, 10, 11, 17, 19, 22] 13) az w8
    have w6 : WA P 13 (opsX x) 16 (bs 22 111) Φ t6 := WT V_ok [] 7 (tn [0, 1, 4, 10, 11, 17, 19, 21] 13) az w7
    have w5 : WA P 13 (opsX x) 17 (bs 22 47) Φ t5 := WT V_ok [] 6 (tn [0, 1, 4, 10, 11, 17, 19, 20] 13) az w6
    have w4 : WA P 13 (opsX x) 18 (bs 22 15) Φ t4 := WT V_ok [] 5 (tn [0, 1, 4, 10, 11, 17, 19] 13) az w5
    have w3 : WA P 13 (opsX x) 19 (bs 22 7) Φ t3 := WT V_ok [] 3 (tn [0, 1, 4, 10, 11, 17] 13) az w4
    have w2 : WA P 13 (opsX x) 20 (bs 22 3) Φ t2 := WT V_ok [] 2 (tn [0, 1, 4, 10, 11, 16] 13) az w3
    have w1 : WA P 13 (opsX x) 21 (bs 22 1) Φ t1 := WT V_ok [] 1 (tn [0, 1, 4, 10, 11, 15] 13) az w2
    have w0 : WA P 13 (opsX x) 22 (bs 22 0) Φ t0 := WT V_ok [] 0 (tn [0, 1, 4, 10, 11, 14] 13) az w1
    exact RA V_ok 22 (by kernel_rfl) (by kernel_rfl) (by kernel_rfl) w0
  · refine C0 hb1 ?_
    obtain rfl := Option.some.inj H
    exact Lq (tn [] 13)
noncomputable def l1 (x1 : T26b3.T) (x2 x3 x4 x5 x6 x7 x8 x9 x10 x11 x12 x13 x14 x15 : Int) (x16 : List (List (List T1383.T))) (x17 : List Int) (x19 : List T713d.T) (x20 x21 : List Int) (x22 x23 : Int) (k : Nat) : Nat → Int → Int → List T23b6.T → Option R
  | 0, _, _, _ => none
  | m + 1, p1, p2, p20 => b1 x1 x2 x3 x4 x5 x6 x7 x8 x9 x10 x11 x12 x13 x14 x15 x16 x17 x19 x20 x21 x22 x23 (l1 x1 x2 x3 x4 x5 x6 x7 x8 x9 x10 x11 x12 x13 x14 x15 x16 x17 x19 x20 x21 x22 x23 k m) k p1 p2 p20
theorem l1_ok {r x1 x2 x3 x4 x5 x6 x7 x8 x9 x10 x11 x12 x13 x14 x15 x16 x17 x19 x20 x21 x22 x23} (k : Nat) : ∀ (m1 : Nat) (p1 p2 : Int) (p20 : List T23b6.T), l1 x1 x2 x3 x4 x5 x6 x7 x8 x9 x10 x11 x12 x13 x14 x15 x16 x17 x19 x20 x21 x22 x23 k m1 p1 p2 p20 = some r → Gw P 13 (Q x1 x2 x3 x4 x5 x6 x7 x8 x9 x10 x11 x12 x13 x14 x15 x16 x17 x19 x20 x21 x22 x23 r) (Pb c0 5 [] m1) (s1 x1 x2 x3 x4 x5 x6 x7 x8 x9 x10 x11 x12 x13 x14 x15 x16 x17 x19 x20 x21 x22 x23 p1 p2 p20)
  | 0, _, _, _, H => by cases H
  | m1 + 1, p1, p2, p20, H => SU (by kernel_rfl) (b1_ok (l1_ok k m1) H)
noncomputable def f (k : Nat) (x1 : T26b3.T) (x2 x3 x4 x5 x6 x7 x8 x9 x10 x11 x12 x13 x14 x15 : Int) (x16 : List (List (List T1383.T))) (x17 : List Int) (x18 : List T23b6.T) (x19 : List T713d.T) (x20 x21 : List Int) (x22 x23 : Int) : Option R :=
  l1 x1 x2 x3 x4 x5 x6 x7 x8 x9 x10 x11 x12 x13 x14 x15 x16 x17 x19 x20 x21 x22 x23 k k (x18.length : Int) 0 x18
theorem f_ok {r k x1 x2 x3 x4 x5 x6 x7 x8 x9 x10 x11 x12 x13 x14 x15 x16 x17 x18 x19 x20 x21 x22 x23} (H : f k x1 x2 x3 x4 x5 x6 x7 x8 x9 x10 x11 x12 x13 x14 x15 x16 x17 x18 x19 x20 x21 x22 x23 = some r) : Gw P 13 (Q x1 x2 x3 x4 x5 x6 x7 x8 x9 x10 x11 x12 x13 x14 x15 x16 x17 x19 x20 x21 x22 x23 r) (Px c0 1 []) (s0 x1 x2 x3 x4 x5 x6 x7 x8 x9 x10 x11 x12 x13 x14 x15 x16 x17 x18 x19 x20 x21 x22 x23) := by
  unfold f at H
  refine Rg V_ok 0 [] az ?_
  exact LP k (Jm (tn [0, 1, 10, 11] 13) (l1_ok k k (x18.length : Int) 0 x18 H))
theorem ok {r k x1 x2 x3 x4 x5 x6 x7 x8 x9 x10 x11 x12 x13 x14 x15 x16 x17 x18 x19 x20 x21 x22 x23} (H : f k x1 x2 x3 x4 x5 x6 x7 x8 x9 x10 x11 x12 x13 x14 x15 x16 x17 x18 x19 x20 x21 x22 x23 = some r) : W P 13 c0 (s0 x1 x2 x3 x4 x5 x6 x7 x8 x9 x10 x11 x12 x13 x14 x15 x16 x17 x18 x19 x20 x21 x22 x23) (CallQ 13 (out x1 x2 x3 x4 x5 x6 x7 x8 x9 x10 x11 x12 x13 x14 x15 x16 x17 x19 x20 x21 x22 x23 r)) := of_G (f_ok H)
theorem at_ : FnAt P 75 36 c0 Go.Proofs.Tryd.f75.results := fnAt Go.Proofs.Tryd.func75 (by kernel_rfl) (by decide) (by kernel_rfl) (by kernel_rfl)
end i_control_controller_tell_cd9
/-! ### function 81, (*wayfinder/control.controller).end, where it is called -/

namespace i_control_controller_end_2b1
noncomputable def c0 : Code := (Go.Proofs.Tryd.f81.body).getD .skip
noncomputable def V : Env := { tt := tt, Γ := slk [] }
theorem V_ok : EnvOk P V := { ck := tt_ck, fits := slk_nil, mixed := mixed }
abbrev R := (Int) × (Int) × Unit
noncomputable def s0 (x1 : Int) (x2 : T26b3.T) (x3 x4 x5 x6 x7 x8 x9 x10 x11 x12 x13 x14 x15 x16 : Int) (x17 : List (List (List T1383.T))) (x18 : List Int) (x19 : List T23b6.T) (x20 : List T713d.T) (x21 x22 : List Int) : St := ⟨17, [(0, .cv (.one (.ptr 3 0))), (1, .cv (.one (.i x1)))], [(.box 13, (encC .any T26b3 x2)), (.box 13, [.nils, .i x3, .i x4, .i x5, .i x6, .i x7, .i x8, .nils, .nils, .nils, .nils, .nils, .i x9]), (.box 6, [.fn 35 [] [], .fn 36 [] [], .fn 37 [] [], .fn 38 [] [], .fn 39 [] [], .fn 39 [] []]), (.box 13, [.own 4, .i x10, .i x11, .i x12, .i x13, .i x14, .i x15, .own 5, .own 6, .own 7, .own 8, .own 11, .i x16]), (.buf 64 (.slice (.slice T1383)) x17, []), (.buf 3 (.int .i64) x18, []), (.buf 50 T23b6 x19, []), (.buf 95 T713d x20, []), (.buf 3 (.int .i64) x21, []), (.dead, []), (.box 1, [.ptr 3 0]), (.buf 3 (.int .i64) x22, [])]⟩
noncomputable def out (x1 : Int) (x2 : T26b3.T) (x3 x4 x5 x6 x7 x8 x9 x10 x12 x15 x16 : Int) (x17 : List (List (List T1383.T))) (x18 : List Int) (x19 : List T23b6.T) (x20 : List T713d.T) (x21 x22 : List Int) (r : R) : St := ⟨17, [], [(.box 13, (encC .any T26b3 x2)), (.box 13, [.nils, .i x3, .i x4, .i x5, .i x6, .i x7, .i x8, .nils, .nils, .nils, .nils, .nils, .i x9]), (.box 6, [.fn 35 [] [], .fn 36 [] [], .fn 37 [] [], .fn 38 [] [], .fn 39 [] [], .fn 39 [] []]), (.box 13, [.own 4, .i x10, .i r.1, .i x12, .i r.2.1, .i x1, .i x15, .own 5, .own 6, .own 7, .own 8, .own 11, .i x16]), (.buf 64 (.slice (.slice T1383)) x17, []), (.buf 3 (.int .i64) x18, []), (.buf 50 T23b6 x19, []), (.buf 95 T713d x20, []), (.buf 3 (.int .i64) x21, []), (.dead, []), (.box 1, [.ptr 3 0]), (.buf 3 (.int .i64) x22, [])]⟩
abbrev Q (x1 : Int) (x2 : T26b3.T) (x3 x4 x5 x6 x7 x8 x9 x10 x12 x15 x16 : Int) (x17 : List (List (List T1383.T))) (x18 : List Int) (x19 : List T23b6.T) (x20 : List T713d.T) (x21 x22 : List Int) (r : R) := CallQ 12 (out x1 x2 x3 x4 x5 x6 x7 x8 x9 x10 x12 x15 x16 x17 x18 x19 x20 x21 x22 r)
noncomputable def f (k : Nat) (x1 : Int) (x2 : T26b3.T) (x3 x4 x5 x6 x7 x8 x9 x10 x11 x12 x13 x14 x15 x16 : Int) (x17 : List (List (List T1383.T))) (x18 : List Int) (x19 : List T23b6.T) (x20 : List T713d.T) (x21 x22 : List Int) : Option R :=
  some ((-1), ((0 : Int), ()))
theorem f_ok {r k x1 x2 x3 x4 x5 x6 x7 x8 x9 x10 x11 x12 x13 x14 x15 x16 x17 x18 x19 x20 x21 x22} (H : f k x1 x2 x3 x4 x5 x6 x7 x8 x9 x10 x11 x12 x13 x14 x15 x16 x17 x18 x19 x20 x21 x22 = some r) : Gw P 12 (Q x1 x2 x3 x4 x5 x6 x7 x8 x9 x10 x12 x15 x16 x17 x18 x19 x20 x21 x22 r) (Px c0 1 []) (s0 x1 x2 x3 x4 x5 x6 x7 x8 x9 x10 x11 x12 x13 x14 x15 x16 x17 x18 x19 x20 x21 x22) := by
  unfold f at H
  refine Rg V_ok 0 [] az ?_
  obtain rfl := Option.some.inj H
  exact Lq (tn [] 12)
theorem ok {r k x1 x2 x3 x4 x5 x6 x7 x8 x9 x10 x11 x12 x13 x14 x15 x16 x17 x18 x19 x20 x21 x22} (H : f k x1 x2 x3 x4 x5 x6 x7 x8 x9 x10 x11 x12 x13 x14 x15 x16 x17 x18 x19 x20 x21 x22 = some r) : W P 12 c0 (s0 x1 x2 x3 x4 x5 x6 x7 x8 x9 x10 x11 x12 x13 x14 x15 x16 x17 x18 x19 x20 x21 x22) (CallQ 12 (out x1 x2 x3 x4 x5 x6 x7 x8 x9 x10 x12 x15 x16 x17 x18 x19 x20 x21 x22 r)) := of_G (f_ok H)
theorem at_ : FnAt P 81 17 c0 Go.Proofs.Tryd.f81.results := fnAt Go.Proofs.Tryd.func81 (by kernel_rfl) (by decide) (by kernel_rfl) (by kernel_rfl)
end i_control_controller_end_2b1
/-! ### function 36, (*wayfinder/control.controller).install, where it is called -/

namespace i_control_controller_install_d8b
noncomputable def c0 : Code := (Go.Proofs.Tryd.f36.body).getD .skip
noncomputable def V : Env := { tt := tt, Γ := slk [] }
theorem V_ok : EnvOk P V := { ck := tt_ck, fits := slk_nil, mixed := mixed }
abbrev R := (Int) × (Int) × (Int) × (List Int) × (List T23b6.T) × Unit
noncomputable def s0 (x1 : T26b3.T) (x2 x3 x4 x5 x6 x7 x8 x9 x10 x11 x12 x13 x14 x15 : Int) (x16 : List (List (List T1383.T))) (x17 : List Int) (x18 : List T23b6.T) (x19 : List T713d.T) (x20 x21 : List Int) : St := ⟨51, [(0, .cv (.one (.ptr 3 0)))], [(.box 13, (encC .any T26b3 x1)), (.box 13, [.nils, .i x2, .i x3, .i x4, .i x5, .i x6, .i x7, .nils, .nils, .nils, .nils, .nils, .i x8]), (.box 6, [.fn 35 [] [], .fn 36 [] [], .fn 37 [] [], .fn 38 [] [], .fn 39 [] [], .fn 39 [] []]), (.box 13, [.own 4, .i x9, .i x10, .i x11, .i x12, .i x13, .i x14, .own 5, .own 6, .own 7, .own 8, .own 9, .i x15]), (.buf 64 (.slice (.slice T1383)) x16, []), (.buf 3 (.int .i64) x17, []), (.buf 50 T23b6 x18, []), (.buf 95 T713d x19, []), (.buf 3 (.int .i64) x20, []), (.buf 3 (.int .i64) x21, [])]⟩
noncomputable def out (x1 : T26b3.T) (x2 x3 x4 x5 x6 x7 x8 x9 x11 x14 x15 : Int) (x16 : List (List (List T1383.T))) (x17 : List Int) (x19 : List T713d.T) (x20 : List Int) (r : R) : St := ⟨51, [], [(.box 13, (encC .any T26b3 x1)), (.box 13, [.nils, .i x2, .i x3, .i x4, .i x5, .i x6, .i x7, .nils, .nils, .nils, .nils, .nils, .i x8]), (.box 6, [.fn 35 [] [], .fn 36 [] [], .fn 37 [] [], .fn 38 [] [], .fn 39 [] [], .fn 39 [] []]), (.box 13, [.own 4, .i x9, .i r.1, .i x11, .i r.2.1, .i r.2.2.1, .i x14, .own 5, .own 6, .own 7, .own 8, .sl (.int .i64) r.2.2.2.1 .any, .i x15]), (.buf 64 (.slice (.slice T1383)) x16, []), (.buf 3 (.int .i64) x17, []), (.buf 50 T23b6 r.2.2.2.2.1, []), (.buf 95 T713d x19, []), (.buf 3 (.int .i64) x20, []), (.dead, [])]⟩
abbrev Q (x1 : T26b3.T) (x2 x3 x4 x5 x6 x7 x8 x9 x11 x14 x15 : Int) (x16 : List (List (List T1383.T))) (x17 : List Int) (x19 : List T713d.T) (x20 : List Int) (r : R) := CallQ 10 (out x1 x2 x3 x4 x5 x6 x7 x8 x9 x11 x14 x15 x16 x17 x19 x20 r)
noncomputable def f (k : Nat) (x1 : T26b3.T) (x2 x3 x4 x5 x6 x7 x8 x9 x10 x11 x12 x13 x14 x15 : Int) (x16 : List (List (List T1383.T))) (x17 : List Int) (x18 : List T23b6.T) (x19 : List T713d.T) (x20 x21 : List Int) : Option R :=
  (i_slices_ContainsFunc_Peer_d2b.f k x1 x2 x3 x4 x5 x6 x7 x8 x9 x10 x11 x12 x13 x14 x15 x16 x17 x18 x19 x20 x21).bind fun y1 =>
    if y1.1 = true then
      (i_control_all_518.f k (4 : Int) x12 x1 x2 x3 x4 x5 x6 x7 x8 x9 x10 x11 x12 x13 x14 x15 x16 x17 x18 x19 x20 x21).bind fun y4 =>
        (i_control_controller_tell_cd9.f k x1 x2 x3 x4 x5 x6 x7 x8 x9 x10 x11 x12 x13 x14 x15 x16 x17 x18 x19 x20 x21 (4 : Int) x12).bind fun y6 =>
          if (x21.length + 1) * 8 ≤ 140737488355328 then
            (i_control_controller_end_2b1.f k (5 : Int) x1 x2 x3 x4 x5 x6 x7 x8 x9 x10 x11 x12 x13 x14 x15 x16 x17 y6.1 x19 x20 (x21 ++ [x10])).bind fun y9 =>
              some (y9.1, (y9.2.1, ((5 : Int), ((x21 ++ [x10]), (y6.1, ())))))
          else none
    else
      (i_control_controller_done_ad0.f k x1 x2 x3 x4 x5 x6 x7 x8 x9 x10 x11 x12 x13 x14 x15 x16 x17 x18 x19 x20 x21).bind fun y11 =>
        if y11.1 = true then
          (i_control_all_518.f k (3 : Int) x12 x1 x2 x3 x4 x5 x6 x7 x8 x9 x10 x11 x12 x13 x14 x15 x16 x17 x18 x19 x20 x21).bind fun y14 =>
            (i_control_controller_tell_cd9.f k x1 x2 x3 x4 x5 x6 x7 x8 x9 x10 x11 x12 x13 x14 x15 x16 x17 x18 x19 x20 x21 (3 : Int) x12).bind fun y16 =>
              some (x10, (x12, ((2 : Int), (x21, (y16.1, ())))))
        else
          some (x10, (x12, (x13, (x21, (x18, ())))))
theorem f_ok {r k x1 x2 x3 x4 x5 x6 x7 x8 x9 x10 x11 x12 x13 x14 x15 x16 x17 x18 x19 x20 x21} (H : f k x1 x2 x3 x4 x5 x6 x7 x8 x9 x10 x11 x12 x13 x14 x15 x16 x17 x18 x19 x20 x21 = some r) : Gw P 10 (Q x1 x2 x3 x4 x5 x6 x7 x8 x9 x11 x14 x15 x16 x17 x19 x20 r) (Px c0 1 []) (s0 x1 x2 x3 x4 x5 x6 x7 x8 x9 x10 x11 x12 x13 x14 x15 x16 x17 x18 x19 x20 x21) := by
  unfold f at H
  refine Rg V_ok 1 [(0, hb 10)] az ?_
  refine GT (tn [1] 11) (RI ?_)
  refine EV V_ok 0 [] 6 az ?_
  obtain ⟨y1, e2, H⟩ := of_bind H
  refine CL V_ok i_slices_ContainsFunc_Peer_d2b.at_ (i_slices_ContainsFunc_Peer_d2b.ok e2) ?_
  refine EV V_ok 0 [] 1 az ?_
  refine RN ?_
  rcases of_ite H with ⟨hb3, H⟩ | ⟨hb3, H⟩
  · refine C1 hb3 ?_
    obtain ⟨y4, e5, H⟩ := of_bind H
    obtain ⟨y6, e7, H⟩ := of_bind H
    let x : Nx := (Px c0 37 [])
    let t0 : St := ⟨51, [(1, .cv (.one (.ptr 10 0)))], [(.box 13, (encC .any T26b3 x1)), (.box 13, [.nils, .i x2, .i x3, .i x4, .i x5, .i x6, .i x7, .nils, .nils, .nils, .nils, .nils, .i x8]), (.box 6, [.fn 35 [] [], .fn 36 [] [], .fn 37 [] [], .fn 38 [] [], .fn 39 [] [], .fn 39 [] []]), (.box 13, [.own 4, .i x9, .i x10, .i x11, .i x12, .i x13, .i x14, .own 5, .own 6, .own 7, .own 8, .own 9, .i x15]), (.buf 64 (.slice (.slice T1383)) x16, []), (.buf 3 (.int .i64) x17, []), (.buf 50 T23b6 x18, []), (.buf 95 T713d x19, []), (.buf 3 (.int .i64) x20, []), (.buf 3 (.int .i64) x21, []), (.box 1, [.ptr 3 0])]⟩
    refine Jm (x' := x) (τ := t0) (tn [1] 11) ?_
    let Φ := phiX P 10 (Q x1 x2 x3 x4 x5 x6 x7 x8 x9 x11 x14 x15 x16 x17 x19 x20 r) x
    let t1 : St := stpS V x 0 [] 0 (tn [1, 10] 11) t0
    let t2 : St := stpS V x 0 [] 1 (tn [1, 11] 11) t0
    let t3 : St := stpS V x 0 [] 1 (tn [1, 10, 11] 11) t1
    let t4 : St := stpS V x 0 [] 2 (tn [1, 12] 11) t2
    let t5 : St := stpS V x 0 [] 2 (tn [1, 10, 12] 11) t3
    let t6 : St := stpS V x 0 [] 3 (tn [1, 13] 11) t4
    let t7 : St := stpS V x 0 [] 3 (tn [1, 10, 13] 11) t5
    let t8 : St := stpS V x 0 [] 4 (tn [1, 14] 11) t6
    let t9 : St := stpS V x 0 [] 4 (tn [1, 10, 14] 11) t7
    let t10 : St := stpS V x 0 [] 5 (tn [1, 15] 11) t8
    let t11 : St := stpS V x 0 [] 5 (tn [1, 10, 15] 11) t9
    let t12 : St := clT V.tt x 6 Go.Proofs.Tryd.f80.results (tn [1, 16] 13) t10 (i_control_all_518.out (4 : Int) x12 x1 x2 x3 x4 x5 x6 x7 x8 x9 x10 x11 x12 x13 x14 x15 x16 x17 x18 x19 x20 x21 y4)
    let t13 : St := clT V.tt x 6 Go.Proofs.Tryd.f80.results (tn [1, 10, 16] 13) t11 (i_control_all_518.out (4 : Int) x12 x1 x2 x3 x4 x5 x6 x7 x8 x9 x10 x11 x12 x13 x14 x15 x16 x17 x18 x19 x20 x21 y4)
    let t14 : St := clT V.tt x 7 Go.Proofs.Tryd.f75.results (tn [1] 11) t13 (i_control_controller_tell_cd9.out x1 x2 x3 x4 x5 x6 x7 x8 x9 x10 x11 x12 x13 x14 x15 x16 x17 x19 x20 x21 (4 : Int) x12 y6)
    have w14 : WA P 10 (opsX x) 0 (bs 8 255) Φ t14 := by
      refine WA_nil (by kernel_rfl) (RAn (by kernel_rfl) ?_)
      obtain ⟨n8, H⟩ := of_if H
      refine Rg V_ok 1 [(12, hb 11)] (ac n8 az) ?_
      refine GT (tn [1] 12) (RI ?_)
      refine EV V_ok 0 [] 1 az ?_
      obtain ⟨y9, e10, H⟩ := of_bind H
      refine CL V_ok i_control_controller_end_2b1.at_ (i_control_controller_end_2b1.ok e10) ?_
      refine RN ?_
      obtain rfl := Option.some.inj H
      exact Lq {fz := [11], gr := 0, ad := [], live := [], src := [some 0, some 1, some 2, some 3, some 4, some 5, some 6, some 7, some 8, some 9]}
    have w13 : WA P 10 (opsX x) 1 (bs 8 127) Φ t13 := WAs (an (WC V_ok 7 (tn [1] 11) i_control_controller_tell_cd9.at_ (i_control_controller_tell_cd9.ok e7) w14) aN)
    have w12 : WA P 10 (opsX x) 2 (bs 8 126) Φ t12 := WAs (an (WE V_ok 0 [] 0 (tn [1, 10, 16] 13) az w13) aN)
    have w11 : WA P 10 (opsX x) 2 (bs 8 63) Φ t11 := WAs (an (WC V_ok 6 (tn [1, 10, 16] 13) i_control_all_518.at_ (i_control_all_518.ok e5) w13) aN)
    have w10 : WA P 10 (opsX x) 3 (bs 8 62) Φ t10 := WAs (an (WE V_ok 0 [] 0 (tn [1, 10, 15] 11) az w11) (an (WC V_ok 6 (tn [1, 16] 13) i_control_all_518.at_ (i_control_all_518.ok e5) w12) aN))
    have w9 : WA P 10 (opsX x) 3 (bs 8 31) Φ t9 := WAs (an (WE V_ok 0 [] 5 (tn [1, 10, 15] 11) az w11) aN)
    have w8 : WA P 10 (opsX x) 4 (bs 8 30) Φ t8 := WAs (an (WE V_ok 0 [] 0 (tn [1, 10, 14] 11) az w9) (an (WE V_ok 0 [] 5 (tn [1, 15] 11) az w10) aN))
    have w7 : WA P 10 (opsX x) 4 (bs 8 15) Φ t7 := WT V_ok [] 4 (tn [1, 10, 14] 11) az w9
    have w6 : WA P 10 (opsX x) 5 (bs 8 14) Φ t6 := WT V_ok [] 4 (tn [1, 14] 11) az w8
    have w5 : WA P 10 (opsX x) 5 (bs 8 7) Φ t5 := WT V_ok [] 3 (tn [1, 10, 13] 11) az w7
    have w4 : WA P 10 (opsX x) 6 (bs 8 6) Φ t4 := WT V_ok [] 3 (tn [1, 13] 11) az w6
    have w3 : WA P 10 (opsX x) 6 (bs 8 3) Φ t3 := WT V_ok [] 2 (tn [1, 10, 12] 11) az w5
    have w2 : WA P 10 (opsX x) 7 (bs 8 2) Φ t2 := WT V_ok [] 2 (tn [1, 12] 11) az w4
    have w1 : WA P 10 (opsX x) 7 (bs 8 1) Φ t1 := WAs (an (WE V_ok 0 [] 1 (tn [1, 10, 11] 11) az w3) aN)
    have w0 : WA P 10 (opsX x) 8 (bs 8 0) Φ t0 := WAs (an (WE V_ok 0 [] 0 (tn [1, 10] 11) az w1) (an (WE V_ok 0 [] 1 (tn [1, 11] 11) az w2) aN))
    exact RA V_ok 8 (by kernel_rfl) (by kernel_rfl) (by kernel_rfl) w0
  · refine C0 hb3 ?_
    refine GT (tn [1] 11) (RI ?_)
    refine EV V_ok 0 [] 1 az ?_
    obtain ⟨y11, e12, H⟩ := of_bind H
    refine CL V_ok i_control_controller_done_ad0.at_ (i_control_controller_done_ad0.ok e12) ?_
    refine EV V_ok 0 [] 1 az ?_
    refine RN ?_
    rcases of_ite H with ⟨hb13, H⟩ | ⟨hb13, H⟩
    · refine C1 hb13 ?_
      obtain ⟨y14, e15, H⟩ := of_bind H
      obtain ⟨y16, e17, H⟩ := of_bind H
      let x : Nx := (Px c0 157 [])
      let t0 : St := ⟨51, [(1, .cv (.one (.ptr 10 0)))], [(.box 13, (encC .any T26b3 x1)), (.box 13, [.nils, .i x2, .i x3, .i x4, .i x5, .i x6, .i x7, .nils, .nils, .nils, .nils, .nils, .i x8]), (.box 6, [.fn 35 [] [], .fn 36 [] [], .fn 37 [] [], .fn 38 [] [], .fn 39 [] [], .fn 39 [] []]), (.box 13, [.own 4, .i x9, .i x10, .i x11, .i x12, .i x13, .i x14, .own 5, .own 6, .own 7, .own 8, .own 9, .i x15]), (.buf 64 (.slice (.slice T1383)) x16, []), (.buf 3 (.int .i64) x17, []), (.buf 50 T23b6 x18, []), (.buf 95 T713d x19, []), (.buf 3 (.int .i64) x20, []), (.buf 3 (.int .i64) x21, []), (.box 1, [.ptr 3 0])]⟩
      refine Jm (x' := x) (τ := t0) (tn [1] 11) ?_
      let Φ := phiX P 10 (Q x1 x2 x3 x4 x5 x6 x7 x8 x9 x11 x14 x15 x16 x17 x19 x20 r) x
      let t1 : St := stpS V x 0 [] 0 (tn [1, 39] 11) t0
      let t2 : St := stpS V x 0 [] 1 (tn [1, 40] 11) t0
      let t3 : St := stpS V x 0 [] 1 (tn [1, 39, 40] 11) t1
      let t4 : St := stpS V x 0 [] 2 (tn [1, 41] 11) t2
      let t5 : St := stpS V x 0 [] 2 (tn [1, 39, 41] 11) t3
      let t6 : St := stpS V x 0 [] 3 (tn [1, 42] 11) t4
      let t7 : St := stpS V x 0 [] 3 (tn [1, 39, 42] 11) t5
      let t8 : St := stpS V x 0 [] 4 (tn [1, 43] 11) t6
      let t9 : St := stpS V x 0 [] 4 (tn [1, 39, 43] 11) t7
      let t10 : St := stpS V x 0 [] 5 (tn [1, 44] 11) t8
      let t11 : St := stpS V x 0 [] 5 (tn [1, 39, 44] 11) t9
      let t12 : St := clT V.tt x 6 Go.Proofs.Tryd.f80.results (tn [1, 45] 13) t10 (i_control_all_518.out (3 : Int) x12 x1 x2 x3 x4 x5 x6 x7 x8 x9 x10 x11 x12 x13 x14 x15 x16 x17 x18 x19 x20 x21 y14)
      let t13 : St := clT V.tt x 6 Go.Proofs.Tryd.f80.results (tn [1, 39, 45] 13) t11 (i_control_all_518.out (3 : Int) x12 x1 x2 x3 x4 x5 x6 x7 x8 x9 x10 x11 x12 x13 x14 x15 x16 x17 x18 x19 x20 x21 y14)
      let t14 : St := clT V.tt x 7 Go.Proofs.Tryd.f75.results (tn [1] 11) t13 (i_control_controller_tell_cd9.out x1 x2 x3 x4 x5 x6 x7 x8 x9 x10 x11 x12 x13 x14 x15 x16 x17 x19 x20 x21 (3 : Int) x12 y16)
      have w14 : WA P 10 (opsX x) 0 (bs 8 255) Φ t14 := by
        refine WA_nil (by kernel_rfl) (RAn (by kernel_rfl) ?_)
        refine Rg V_ok 0 [] az ?_
        obtain rfl := Option.some.inj H
        exact Lq {fz := [9], gr := 0, ad := [], live := [], src := [some 0, some 1, some 2, some 3, some 4, some 5, some 6, some 7, some 8, some 9]}
      have w13 : WA P 10 (opsX x) 1 (bs 8 127) Φ t13 := WAs (an (WC V_ok 7 (tn [1] 11) i_control_controller_tell_cd9.at_ (i_control_controller_tell_cd9.ok e17) w14) aN)
      have w12 : WA P 10 (opsX x) 2 (bs 8 126) Φ t12 := WAs (an (WE V_ok 0 [] 0 (tn [1, 39, 45] 13) az w13) aN)
      have w11 : WA P 10 (opsX x) 2 (bs 8 63) Φ t11 := WAs (an (WC V_ok 6 (tn [1, 39, 45] 13) i_control_all_518.at_ (i_control_all_518.ok e15) w13) aN)
      have w10 : WA P 10 (opsX x) 3 (bs 8 62) Φ t10 := WAs (an (WE V_ok 0 [] 0 (tn [1, 39, 44] 11) az w11) (an (WC V_ok 6 (tn [1, 45] 13) i_control_all_518.at_ (i_control_all_518.ok e15) w12) aN))
      have w9 : WA P 10 (opsX x) 3 (bs 8 31) Φ t9 := WAs (an (WE V_ok 0 [] 5 (tn [1, 39, 44] 11) az w11) aN)
      have w8 : WA P 10 (opsX x) 4 (bs 8 30) Φ t8 := WAs (an (WE V_ok 0 [] 0 (tn [1, 39, 43] 11) az w9) (an (WE V_ok 0 [] 5 (tn [1, 44] 11) az w10) aN))
      have w7 : WA P 10 (opsX x) 4 (bs 8 15) Φ t7 := WT V_ok [] 4 (tn [1, 39, 43] 11) az w9
      have w6 : WA P 10 (opsX x) 5 (bs 8 14) Φ t6 := WT V_ok [] 4 (tn [1, 43] 11) az w8
      have w5 : WA P 10 (opsX x) 5 (bs 8 7) Φ t5 := WT V_ok [] 3 (tn [1, 39, 42] 11) az w7
      have w4 : WA P 10 (opsX x) 6 (bs 8 6) Φ t4 := WT V_ok [] 3 (tn [1, 42] 11) az w6
      have w3 : WA P 10 (opsX x) 6 (bs 8 3) Φ t3 := WT V_ok [] 2 (tn [1, 39, 41] 11) az w5
      have w2 : WA P 10 (opsX x) 7 (bs 8 2) Φ t2 := WT V_ok [] 2 (tn [1, 41] 11) az w4
      have w1 : WA P 10 (opsX x) 7 (bs 8 1) Φ t1 := WAs (an (WE V_ok 0 [] 1 (tn [1, 39, 40] 11) az w3) aN)
      have w0 : WA P 10 (opsX x) 8 (bs 8 0) Φ t0 := WAs (an (WE V_ok 0 [] 0 (tn [1, 39] 11) az w1) (an (WE V_ok 0 [] 1 (tn [1, 40] 11) az w2) aN))
      exact RA V_ok 8 (by kernel_rfl) (by kernel_rfl) (by kernel_rfl) w0
    · refine C0 hb13 ?_
      obtain rfl := Option.some.inj H
      exact Lq {fz := [9], gr := 0, ad := [], live := [], src := [some 0, some 1, some 2, some 3, some 4, some 5, some 6, some 7, some 8, some 9]}
theorem ok {r k x1 x2 x3 x4 x5 x6 x7 x8 x9 x10 x11 x12 x13 x14 x15 x16 x17 x18 x19 x20 x21} (H : f k x1 x2 x3 x4 x5 x6 x7 x8 x9 x10 x11 x12 x13 x14 x15 x16 x17 x18 x19 x20 x21 = some r) : W P 10 c0 (s0 x1 x2 x3 x4 x5 x6 x7 x8 x9 x10 x11 x12 x13 x14 x15 x16 x17 x18 x19 x20 x21) (CallQ 10 (out x1 x2 x3 x4 x5 x6 x7 x8 x9 x11 x14 x15 x16 x17 x19 x20 r)) := of_G (f_ok H)
theorem at_ : FnAt P 36 51 c0 Go.Proofs.Tryd.f36.results := fnAt Go.Proofs.Tryd.func36 (by kernel_rfl) (by decide) (by kernel_rfl) (by kernel_rfl)
end i_control_controller_install_d8b
/-! ### function 94, (*wayfinder/control.controller).done$1, where it is called -/

namespace i_control_controller_done_1_d62
noncomputable def c0 : Code := (Go.Proofs.Tryd.f94.body).getD .skip
noncomputable def V : Env := { tt := tt, Γ := slk [] }
theorem V_ok : EnvOk P V := { ck := tt_ck, fits := slk_nil, mixed := mixed }
abbrev R := (Bool) × Unit
noncomputable def s0 (x1 : T23b6.T) (x2 : T26b3.T) (x3 x4 x5 x6 x7 x8 x9 x10 x11 x12 x13 x14 x15 x16 : Int) (x17 : List (List (List T1383.T))) (x18 : List Int) (x19 : List T23b6.T) (x20 : List T713d.T) (x21 x22 : List Int) : St := ⟨13, [(0, .cv (.agg (encC .any T23b6 x1)))], [(.box 13, (encC .any T26b3 x2)), (.box 13, [.nils, .i x3, .i x4, .i x5, .i x6, .i x7, .i x8, .nils, .nils, .nils, .nils, .nils, .i x9]), (.box 6, [.fn 35 [] [], .fn 36 [] [], .fn 37 [] [], .fn 38 [] [], .fn 39 [] [], .fn 39 [] []]), (.box 13, [.own 4, .i x10, .i x11, .i x12, .i x13, .i x14, .i x15, .own 5, .own 6, .own 7, .own 8, .own 9, .i x16]), (.buf 64 (.slice (.slice T1383)) x17, []), (.buf 3 (.int .i64) x18, []), (.buf 50 T23b6 x19, []), (.buf 95 T713d x20, []), (.buf 3 (.int .i64) x21, []), (.buf 3 (.int .i64) x22, [])]⟩
noncomputable def out (x2 : T26b3.T) (x3 x4 x5 x6 x7 x8 x9 x10 x11 x12 x13 x14 x15 x16 : Int) (x17 : List (List (List T1383.T))) (x18 : List Int) (x19 : List T23b6.T) (x20 : List T713d.T) (x21 x22 : List Int) (r : R) : St := ⟨13, [(2, .cv (.one (.bool r.1)))], [(.box 13, (encC .any T26b3 x2)), (.box 13, [.nils, .i x3, .i x4, .i x5, .i x6, .i x7, .i x8, .nils, .nils, .nils, .nils, .nils, .i x9]), (.box 6, [.fn 35 [] [], .fn 36 [] [], .fn 37 [] [], .fn 38 [] [], .fn 39 [] [], .fn 39 [] []]), (.box 13, [.own 4, .i x10, .i x11, .i x12, .i x13, .i x14, .i x15, .own 5, .own 6, .own 7, .own 8, .own 9, .i x16]), (.buf 64 (.slice (.slice T1383)) x17, []), (.buf 3 (.int .i64) x18, []), (.buf 50 T23b6 x19, []), (.buf 95 T713d x20, []), (.buf 3 (.int .i64) x21, []), (.buf 3 (.int .i64) x22, [])]⟩
abbrev Q (x2 : T26b3.T) (x3 x4 x5 x6 x7 x8 x9 x10 x11 x12 x13 x14 x15 x16 : Int) (x17 : List (List (List T1383.T))) (x18 : List Int) (x19 : List T23b6.T) (x20 : List T713d.T) (x21 x22 : List Int) (r : R) := CallQ 10 (out x2 x3 x4 x5 x6 x7 x8 x9 x10 x11 x12 x13 x14 x15 x16 x17 x18 x19 x20 x21 x22 r)
noncomputable def f (k : Nat) (x1 : T23b6.T) (x2 : T26b3.T) (x3 x4 x5 x6 x7 x8 x9 x10 x11 x12 x13 x14 x15 x16 : Int) (x17 : List (List (List T1383.T))) (x18 : List Int) (x19 : List T23b6.T) (x20 : List T713d.T) (x21 x22 : List Int) : Option R :=
  if (decide (x1.1 ≤ (0 : Int))) = true then
    some (true, ())
  else
    some ((decide ((x1.2.2.2.2.length : Int) > (0 : Int))), ())
theorem f_ok {r k x1 x2 x3 x4 x5 x6 x7 x8 x9 x10 x11 x12 x13 x14 x15 x16 x17 x18 x19 x20 x21 x22} (H : f k x1 x2 x3 x4 x5 x6 x7 x8 x9 x10 x11 x12 x13 x14 x15 x16 x17 x18 x19 x20 x21 x22 = some r) : Gw P 10 (Q x2 x3 x4 x5 x6 x7 x8 x9 x10 x11 x12 x13 x14 x15 x16 x17 x18 x19 x20 x21 x22 r) (Px c0 1 []) (s0 x1 x2 x3 x4 x5 x6 x7 x8 x9 x10 x11 x12 x13 x14 x15 x16 x17 x18 x19 x20 x21 x22) := by
  unfold f at H
  refine Rg V_ok 1 [(0, hb 10)] az ?_
  rcases of_ite H with ⟨hb1, H⟩ | ⟨hb1, H⟩
  · refine Rg V_ok 0 [(2, {bv := some true})] (ac hb1 az) ?_
    obtain rfl := Option.some.inj H
    exact Lq (tn [2] 10)
  · refine Rg V_ok 0 [(2, {bv := some false})] (ac hb1 az) ?_
    obtain rfl := Option.some.inj H
    exact Lq (tn [2] 10)
theorem ok {r k x1 x2 x3 x4 x5 x6 x7 x8 x9 x10 x11 x12 x13 x14 x15 x16 x17 x18 x19 x20 x21 x22} (H : f k x1 x2 x3 x4 x5 x6 x7 x8 x9 x10 x11 x12 x13 x14 x15 x16 x17 x18 x19 x20 x21 x22 = some r) : W P 10 c0 (s0 x1 x2 x3 x4 x5 x6 x7 x8 x9 x10 x11 x12 x13 x14 x15 x16 x17 x18 x19 x20 x21 x22) (CallQ 10 (out x2 x3 x4 x5 x6 x7 x8 x9 x10 x11 x12 x13 x14 x15 x16 x17 x18 x19 x20 x21 x22 r)) := of_G (f_ok H)
theorem at_ : FnAt P 94 13 c0 Go.Proofs.Tryd.f94.results := fnAt Go.Proofs.Tryd.func94 (by kernel_rfl) (by decide) (by kernel_rfl) (by kernel_rfl)
end i_control_controller_done_1_d62
/-! ### function 98, slices.IndexFunc[[]wayfinder/api.Peer,wayfinder/api.Peer], where it is called -/

namespace i_slices_IndexFunc_Peer_dc1
noncomputable def c0 : Code := (Go.Proofs.Tryd.f98.body).getD .skip
noncomputable def V : Env := { tt := tt, Γ := slk [] }
theorem V_ok : EnvOk P V := { ck := tt_ck, fits := slk_nil, mixed := mixed }
abbrev R := (Int) × Unit
noncomputable def s0 (x1 : T26b3.T) (x2 x3 x4 x5 x6 x7 x8 x9 x10 x11 x12 x13 x14 x15 : Int) (x16 : List (List (List T1383.T))) (x17 : List Int) (x18 : List T23b6.T) (x19 : List T713d.T) (x20 x21 : List Int) : St := ⟨19, [(0, .cv (.one (.own 6))), (1, .cv (.one (.fn 94 [] [])))], [(.box 13, (encC .any T26b3 x1)), (.box 13, [.nils, .i x2, .i x3, .i x4, .i x5, .i x6, .i x7, .nils, .nils, .nils, .nils, .nils, .i x8]), (.box 6, [.fn 35 [] [], .fn 36 [] [], .fn 37 [] [], .fn 38 [] [], .fn 39 [] [], .fn 39 [] []]), (.box 13, [.own 4, .i x9, .i x10, .i x11, .i x12, .i x13, .i x14, .own 5, .own 6, .own 7, .own 8, .own 9, .i x15]), (.buf 64 (.slice (.slice T1383)) x16, []), (.buf 3 (.int .i64) x17, []), (.buf 50 T23b6 x18, []), (.buf 95 T713d x19, []), (.buf 3 (.int .i64) x20, []), (.buf 3 (.int .i64) x21, [])]⟩
noncomputable def out (x1 : T26b3.T) (x2 x3 x4 x5 x6 x7 x8 x9 x10 x11 x12 x13 x14 x15 : Int) (x16 : List (List (List T1383.T))) (x17 : List Int) (x18 : List T23b6.T) (x19 : List T713d.T) (x20 x21 : List Int) (r : R) : St := ⟨19, [(4, .cv (.one (.i r.1)))], [(.box 13, (encC .any T26b3 x1)), (.box 13, [.nils, .i x2, .i x3, .i x4, .i x5, .i x6, .i x7, .nils, .nils, .nils, .nils, .nils, .i x8]), (.box 6, [.fn 35 [] [], .fn 36 [] [], .fn 37 [] [], .fn 38 [] [], .fn 39 [] [], .fn 39 [] []]), (.box 13, [.own 4, .i x9, .i x10, .i x11, .i x12, .i x13, .i x14, .own 5, .own 6, .own 7, .own 8, .own 9, .i x15]), (.buf 64 (.slice (.slice T1383)) x16, []), (.buf 3 (.int .i64) x17, []), (.buf 50 T23b6 x18, []), (.buf 95 T713d x19, []), (.buf 3 (.int .i64) x20, []), (.buf 3 (.int .i64) x21, [])]⟩
abbrev Q (x1 : T26b3.T) (x2 x3 x4 x5 x6 x7 x8 x9 x10 x11 x12 x13 x14 x15 : Int) (x16 : List (List (List T1383.T))) (x17 : List Int) (x18 : List T23b6.T) (x19 : List T713d.T) (x20 x21 : List Int) (r : R) := CallQ 10 (out x1 x2 x3 x4 x5 x6 x7 x8 x9 x10 x11 x12 x13 x14 x15 x16 x17 x18 x19 x20 x21 r)
noncomputable def s1 (x1 : T26b3.T) (x2 x3 x4 x5 x6 x7 x8 x9 x10 x11 x12 x13 x14 x15 : Int) (x16 : List (List (List T1383.T))) (x17 : List Int) (x18 : List T23b6.T) (x19 : List T713d.T) (x20 x21 : List Int) (p1 p2 : Int) : St := ⟨19, [(0, .cv (.one (.own 6))), (1, .cv (.one (.fn 94 [] []))), (7, .cv (.one (.i p1))), (8, .cv (.one (.i p2)))], [(.box 13, (encC .any T26b3 x1)), (.box 13, [.nils, .i x2, .i x3, .i x4, .i x5, .i x6, .i x7, .nils, .nils, .nils, .nils, .nils, .i x8]), (.box 6, [.fn 35 [] [], .fn 36 [] [], .fn 37 [] [], .fn 38 [] [], .fn 39 [] [], .fn 39 [] []]), (.box 13, [.own 4, .i x9, .i x10, .i x11, .i x12, .i x13, .i x14, .own 5, .own 6, .own 7, .own 8, .own 9, .i x15]), (.buf 64 (.slice (.slice T1383)) x16, []), (.buf 3 (.int .i64) x17, []), (.buf 50 T23b6 x18, []), (.buf 95 T713d x19, []), (.buf 3 (.int .i64) x20, []), (.buf 3 (.int .i64) x21, [])]⟩
noncomputable def b1 (x1 : T26b3.T) (x2 x3 x4 x5 x6 x7 x8 x9 x10 x11 x12 x13 x14 x15 : Int) (x16 : List (List (List T1383.T))) (x17 : List Int) (x18 : List T23b6.T) (x19 : List T713d.T) (x20 x21 : List Int) (L1 : Int → Int → Option R) (k : Nat) (p1 p2 : Int) : Option R :=
  if (decide (p2 < p1)) = true then
  if 0 ≤ p2 then
    if p2 < (x18.length : Int) then
      (i_control_controller_done_1_d62.f k (att T23b6 x18 p2) x1 x2 x3 x4 x5 x6 x7 x8 x9 x10 x11 x12 x13 x14 x15 x16 x17 x18 x19 x20 x21).bind fun y4 =>
        if y4.1 = true then
          some (p2, ())
        else
          L1 p1 (IntKind.i64.wrap (p2 + 1))
    else none
  else none
else
  some ((-1), ())
theorem b1_ok {r x1 x2 x3 x4 x5 x6 x7 x8 x9 x10 x11 x12 x13 x14 x15 x16 x17 x18 x19 x20 x21} {L1 : Int → Int → Option R} {m1 : Nat} (hL1 : ∀ p1 p2, L1 p1 p2 = some r → Gw P 10 (Q x1 x2 x3 x4 x5 x6 x7 x8 x9 x10 x11 x12 x13 x14 x15 x16 x17 x18 x19 x20 x21 r) (Pb c0 21 [] m1) (s1 x1 x2 x3 x4 x5 x6 x7 x8 x9 x10 x11 x12 x13 x14 x15 x16 x17 x18 x19 x20 x21 p1 p2)) {k p1 p2} (H : b1 x1 x2 x3 x4 x5 x6 x7 x8 x9 x10 x11 x12 x13 x14 x15 x16 x17 x18 x19 x20 x21 L1 k p1 p2 = some r) : Gw P 10 (Q x1 x2 x3 x4 x5 x6 x7 x8 x9 x10 x11 x12 x13 x14 x15 x16 x17 x18 x19 x20 x21 r) (Px c0 37 [m1]) (s1 x1 x2 x3 x4 x5 x6 x7 x8 x9 x10 x11 x12 x13 x14 x15 x16 x17 x18 x19 x20 x21 p1 p2) := by
  unfold b1 at H
  refine Rg V_ok 0 [] az ?_
  rcases of_ite H with ⟨hb1, H⟩ | ⟨hb1, H⟩
  · refine C1 hb1 ?_
    refine Rg V_ok 0 [] az ?_
    refine GT (tn [0, 1, 5, 7, 8] 10) (RI ?_)
    obtain ⟨n2, H⟩ := of_if H
    obtain ⟨n3, H⟩ := of_if H
    refine EV V_ok 0 [] 5 (ac n2 (ac n3 az)) ?_
    obtain ⟨y4, e5, H⟩ := of_bind H
    refine CL V_ok i_control_controller_done_1_d62.at_ (i_control_controller_done_1_d62.ok e5) ?_
    refine RN ?_
    rcases of_ite H with ⟨hb6, H⟩ | ⟨hb6, H⟩
    · refine C1 hb6 ?_
      refine Rg V_ok 0 [] az ?_
      obtain rfl := Option.some.inj H
      exact Lq (tn [4] 10)
    · refine C0 hb6 ?_
      refine Rg V_ok 0 [] az ?_
      exact Jm (tn [0, 1, 7, 8] 10) (hL1 p1 (IntKind.i64.wrap (p2 + 1)) H)
  · refine C0 hb1 ?_
    refine Rg V_ok 0 [] az ?_
    obtain rfl := Option.some.inj H
    exact Lq (tn [4] 10)
noncomputable def l1 (x1 : T26b3.T) (x2 x3 x4 x5 x6 x7 x8 x9 x10 x11 x12 x13 x14 x15 : Int) (x16 : List (List (List T1383.T))) (x17 : List Int) (x18 : List T23b6.T) (x19 : List T713d.T) (x20 x21 : List Int) (k : Nat) : Nat → Int → Int → Option R
  | 0, _, _ => none
  | m + 1, p1, p2 => b1 x1 x2 x3 x4 x5 x6 x7 x8 x9 x10 x11 x12 x13 x14 x15 x16 x17 x18 x19 x20 x21 (l1 x1 x2 x3 x4 x5 x6 x7 x8 x9 x10 x11 x12 x13 x14 x15 x16 x17 x18 x19 x20 x21 k m) k p1 p2
theorem l1_ok {r x1 x2 x3 x4 x5 x6 x7 x8 x9 x10 x11 x12 x13 x14 x15 x16 x17 x18 x19 x20 x21} (k : Nat) : ∀ (m1 : Nat) (p1 : Int) (p2 : Int), l1 x1 x2 x3 x4 x5 x6 x7 x8 x9 x10 x11 x12 x13 x14 x15 x16 x17 x18 x19 x20 x21 k m1 p1 p2 = some r → Gw P 10 (Q x1 x2 x3 x4 x5 x6 x7 x8 x9 x10 x11 x12 x13 x14 x15 x16 x17 x18 x19 x20 x21 r) (Pb c0 21 [] m1) (s1 x1 x2 x3 x4 x5 x6 x7 x8 x9 x10 x11 x12 x13 x14 x15 x16 x17 x18 x19 x20 x21 p1 p2)
  | 0, _, _, H => by cases H
  | m1 + 1, p1, p2, H => SU (by kernel_rfl) (b1_ok (l1_ok k m1) H)
noncomputable def f (k : Nat) (x1 : T26b3.T) (x2 x3 x4 x5 x6 x7 x8 x9 x10 x11 x12 x13 x14 x15 : Int) (x16 : List (List (List T1383.T))) (x17 : List Int) (x18 : List T23b6.T) (x19 : List T713d.T) (x20 x21 : List Int) : Option R :=
  l1 x1 x2 x3 x4 x5 x6 x7 x8 x9 x10 x11 x12 x13 x14 x15 x16 x17 x18 x19 x20 x21 k k (x18.length : Int) 0
theorem f_ok {r k x1 x2 x3 x4 x5 x6 x7 x8 x9 x10 x11 x12 x13 x14 x15 x16 x17 x18 x19 x20 x21} (H : f k x1 x2 x3 x4 x5 x6 x7 x8 x9 x10 x11 x12 x13 x14 x15 x16 x17 x18 x19 x20 x21 = some r) : Gw P 10 (Q x1 x2 x3 x4 x5 x6 x7 x8 x9 x10 x11 x12 x13 x14 x15 x16 x17 x18 x19 x20 x21 r) (Px c0 1 []) (s0 x1 x2 x3 x4 x5 x6 x7 x8 x9 x10 x11 x12 x13 x14 x15 x16 x17 x18 x19 x20 x21) := by
  unfold f at H
  refine Rg V_ok 0 [] az ?_
  refine Rg V_ok 0 [] az ?_
  exact LP k (Jm (tn [0, 1, 7, 8] 10) (l1_ok k k (x18.length : Int) 0 H))
theorem ok {r k x1 x2 x3 x4 x5 x6 x7 x8 x9 x10 x11 x12 x13 x14 x15 x16 x17 x18 x19 x20 x21} (H : f k x1 x2 x3 x4 x5 x6 x7 x8 x9 x10 x11 x12 x13 x14 x15 x16 x17 x18 x19 x20 x21 = some r) : W P 10 c0 (s0 x1 x2 x3 x4 x5 x6 x7 x8 x9 x10 x11 x12 x13 x14 x15 x16 x17 x18 x19 x20 x21) (CallQ 10 (out x1 x2 x3 x4 x5 x6 x7 x8 x9 x10 x11 x12 x13 x14 x15 x16 x17 x18 x19 x20 x21 r)) := of_G (f_ok H)
theorem at_ : FnAt P 98 19 c0 Go.Proofs.Tryd.f98.results := fnAt Go.Proofs.Tryd.func98 (by kernel_rfl) (by decide) (by kernel_rfl) (by kernel_rfl)
end i_slices_IndexFunc_Peer_dc1
/-! ### function 78, slices.ContainsFunc[[]wayfinder/api.Peer,wayfinder/api.Peer], where it is called -/

namespace i_slices_ContainsFunc_Peer_dc1
noncomputable def c0 : Code := (Go.Proofs.Tryd.f78.body).getD .skip
noncomputable def V : Env := { tt := tt, Γ := slk [] }
theorem V_ok : EnvOk P V := { ck := tt_ck, fits := slk_nil, mixed := mixed }
abbrev R := (Bool) × Unit
noncomputable def s0 (x1 : T26b3.T) (x2 x3 x4 x5 x6 x7 x8 x9 x10 x11 x12 x13 x14 x15 : Int) (x16 : List (List (List T1383.T))) (x17 : List Int) (x18 : List T23b6.T) (x19 : List T713d.T) (x20 x21 : List Int) : St := ⟨9, [(0, .cv (.one (.own 6))), (1, .cv (.one (.fn 94 [] [])))], [(.box 13, (encC .any T26b3 x1)), (.box 13, [.nils, .i x2, .i x3, .i x4, .i x5, .i x6, .i x7, .nils, .nils, .nils, .nils, .nils, .i x8]), (.box 6, [.fn 35 [] [], .fn 36 [] [], .fn 37 [] [], .fn 38 [] [], .fn 39 [] [], .fn 39 [] []]), (.box 13, [.own 4, .i x9, .i x10, .i x11, .i x12, .i x13, .i x14, .own 5, .own 6, .own 7, .own 8, .own 9, .i x15]), (.buf 64 (.slice (.slice T1383)) x16, []), (.buf 3 (.int .i64) x17, []), (.buf 50 T23b6 x18, []), (.buf 95 T713d x19, []), (.buf 3 (.int .i64) x20, []), (.buf 3 (.int .i64) x21, [])]⟩
noncomputable def out (x1 : T26b3.T) (x2 x3 x4 x5 x6 x7 x8 x9 x10 x11 x12 x13 x14 x15 : Int) (x16 : List (List (List T1383.T))) (x17 : List Int) (x18 : List T23b6.T) (x19 : List T713d.T) (x20 x21 : List Int) (r : R) : St := ⟨9, [(4, .cv (.one (.bool r.1)))], [(.box 13, (encC .any T26b3 x1)), (.box 13, [.nils, .i x2, .i x3, .i x4, .i x5, .i x6, .i x7, .nils, .nils, .nils, .nils, .nils, .i x8]), (.box 6, [.fn 35 [] [], .fn 36 [] [], .fn 37 [] [], .fn 38 [] [], .fn 39 [] [], .fn 39 [] []]), (.box 13, [.own 4, .i x9, .i x10, .i x11, .i x12, .i x13, .i x14, .own 5, .own 6, .own 7, .own 8, .own 9, .i x15]), (.buf 64 (.slice (.slice T1383)) x16, []), (.buf 3 (.int .i64) x17, []), (.buf 50 T23b6 x18, []), (.buf 95 T713d x19, []), (.buf 3 (.int .i64) x20, []), (.buf 3 (.int .i64) x21, [])]⟩
abbrev Q (x1 : T26b3.T) (x2 x3 x4 x5 x6 x7 x8 x9 x10 x11 x12 x13 x14 x15 : Int) (x16 : List (List (List T1383.T))) (x17 : List Int) (x18 : List T23b6.T) (x19 : List T713d.T) (x20 x21 : List Int) (r : R) := CallQ 10 (out x1 x2 x3 x4 x5 x6 x7 x8 x9 x10 x11 x12 x13 x14 x15 x16 x17 x18 x19 x20 x21 r)
noncomputable def f (k : Nat) (x1 : T26b3.T) (x2 x3 x4 x5 x6 x7 x8 x9 x10 x11 x12 x13 x14 x15 : Int) (x16 : List (List (List T1383.T))) (x17 : List Int) (x18 : List T23b6.T) (x19 : List T713d.T) (x20 x21 : List Int) : Option R :=
  (i_slices_IndexFunc_Peer_dc1.f k x1 x2 x3 x4 x5 x6 x7 x8 x9 x10 x11 x12 x13 x14 x15 x16 x17 x18 x19 x20 x21).bind fun y1 =>
    some ((decide (y1.1 ≥ (0 : Int))), ())
theorem f_ok {r k x1 x2 x3 x4 x5 x6 x7 x8 x9 x10 x11 x12 x13 x14 x15 x16 x17 x18 x19 x20 x21} (H : f k x1 x2 x3 x4 x5 x6 x7 x8 x9 x10 x11 x12 x13 x14 x15 x16 x17 x18 x19 x20 x21 = some r) : Gw P 10 (Q x1 x2 x3 x4 x5 x6 x7 x8 x9 x10 x11 x12 x13 x14 x15 x16 x17 x18 x19 x20 x21 r) (Px c0 1 []) (s0 x1 x2 x3 x4 x5 x6 x7 x8 x9 x10 x11 x12 x13 x14 x15 x16 x17 x18 x19 x20 x21) := by
  unfold f at H
  refine Rg V_ok 0 [] az ?_
  refine GT (tn [0, 1] 10) (RI ?_)
  refine EV V_ok 0 [] 2 az ?_
  obtain ⟨y1, e2, H⟩ := of_bind H
  refine CL V_ok i_slices_IndexFunc_Peer_dc1.at_ (i_slices_IndexFunc_Peer_dc1.ok e2) ?_
  refine EV V_ok 0 [] 2 az ?_
  refine RN ?_
  obtain rfl := Option.some.inj H
  exact Lq (tn [4] 10)
theorem ok {r k x1 x2 x3 x4 x5 x6 x7 x8 x9 x10 x11 x12 x13 x14 x15 x16 x17 x18 x19 x20 x21} (H : f k x1 x2 x3 x4 x5 x6 x7 x8 x9 x10 x11 x12 x13 x14 x15 x16 x17 x18 x19 x20 x21 = some r) : W P 10 c0 (s0 x1 x2 x3 x4 x5 x6 x7 x8 x9 x10 x11 x12 x13 x14 x15 x16 x17 x18 x19 x20 x21) (CallQ 10 (out x1 x2 x3 x4 x5 x6 x7 x8 x9 x10 x11 x12 x13 x14 x15 x16 x17 x18 x19 x20 x21 r)) := of_G (f_ok H)
theorem at_ : FnAt P 78 9 c0 Go.Proofs.Tryd.f78.results := fnAt Go.Proofs.Tryd.func78 (by kernel_rfl) (by decide) (by kernel_rfl) (by kernel_rfl)
end i_slices_ContainsFunc_Peer_dc1
/-! ### function 73, (*wayfinder/control.controller).done, where it is called -/

namespace i_control_controller_done_d8b
noncomputable def c0 : Code := (Go.Proofs.Tryd.f73.body).getD .skip
noncomputable def V : Env := { tt := tt, Γ := slk [] }
theorem V_ok : EnvOk P V := { ck := tt_ck, fits := slk_nil, mixed := mixed }
abbrev R := (Bool) × Unit
noncomputable def s0 (x1 : T26b3.T) (x2 x3 x4 x5 x6 x7 x8 x9 x10 x11 x12 x13 x14 x15 : Int) (x16 : List (List (List T1383.T))) (x17 : List Int) (x18 : List T23b6.T) (x19 : List T713d.T) (x20 x21 : List Int) : St := ⟨10, [(0, .cv (.one (.ptr 3 0)))], [(.box 13, (encC .any T26b3 x1)), (.box 13, [.nils, .i x2, .i x3, .i x4, .i x5, .i x6, .i x7, .nils, .nils, .nils, .nils, .nils, .i x8]), (.box 6, [.fn 35 [] [], .fn 36 [] [], .fn 37 [] [], .fn 38 [] [], .fn 39 [] [], .fn 39 [] []]), (.box 13, [.own 4, .i x9, .i x10, .i x11, .i x12, .i x13, .i x14, .own 5, .own 6, .own 7, .own 8, .own 9, .i x15]), (.buf 64 (.slice (.slice T1383)) x16, []), (.buf 3 (.int .i64) x17, []), (.buf 50 T23b6 x18, []), (.buf 95 T713d x19, []), (.buf 3 (.int .i64) x20, []), (.buf 3 (.int .i64) x21, [])]⟩
noncomputable def out (x1 : T26b3.T) (x2 x3 x4 x5 x6 x7 x8 x9 x10 x11 x12 x13 x14 x15 : Int) (x16 : List (List (List T1383.T))) (x17 : List Int) (x18 : List T23b6.T) (x19 : List T713d.T) (x20 x21 : List Int) (r : R) : St := ⟨10, [(2, .cv (.one (.bool r.1)))], [(.box 13, (encC .any T26b3 x1)), (.box 13, [.nils, .i x2, .i x3, .i x4, .i x5, .i x6, .i x7, .nils, .nils, .nils, .nils, .nils, .i x8]), (.box 6, [.fn 35 [] [], .fn 36 [] [], .fn 37 [] [], .fn 38 [] [], .fn 39 [] [], .fn 39 [] []]), (.box 13, [.own 4, .i x9, .i x10, .i x11, .i x12, .i x13, .i x14, .own 5, .own 6, .own 7, .own 8, .own 9, .i x15]), (.buf 64 (.slice (.slice T1383)) x16, []), (.buf 3 (.int .i64) x17, []), (.buf 50 T23b6 x18, []), (.buf 95 T713d x19, []), (.buf 3 (.int .i64) x20, []), (.buf 3 (.int .i64) x21, [])]⟩
abbrev Q (x1 : T26b3.T) (x2 x3 x4 x5 x6 x7 x8 x9 x10 x11 x12 x13 x14 x15 : Int) (x16 : List (List (List T1383.T))) (x17 : List Int) (x18 : List T23b6.T) (x19 : List T713d.T) (x20 x21 : List Int) (r : R) := CallQ 10 (out x1 x2 x3 x4 x5 x6 x7 x8 x9 x10 x11 x12 x13 x14 x15 x16 x17 x18 x19 x20 x21 r)
noncomputable def f (k : Nat) (x1 : T26b3.T) (x2 x3 x4 x5 x6 x7 x8 x9 x10 x11 x12 x13 x14 x15 : Int) (x16 : List (List (List T1383.T))) (x17 : List Int) (x18 : List T23b6.T) (x19 : List T713d.T) (x20 x21 : List Int) : Option R :=
  (i_slices_ContainsFunc_Peer_dc1.f k x1 x2 x3 x4 x5 x6 x7 x8 x9 x10 x11 x12 x13 x14 x15 x16 x17 x18 x19 x20 x21).bind fun y1 =>
    some ((!y1.1), ())
theorem f_ok {r k x1 x2 x3 x4 x5 x6 x7 x8 x9 x10 x11 x12 x13 x14 x15 x16 x17 x18 x19 x20 x21} (H : f k x1 x2 x3 x4 x5 x6 x7 x8 x9 x10 x11 x12 x13 x14 x15 x16 x17 x18 x19 x20 x21 = some r) : Gw P 10 (Q x1 x2 x3 x4 x5 x6 x7 x8 x9 x10 x11 x12 x13 x14 x15 x16 x17 x18 x19 x20 x21 r) (Px c0 1 []) (s0 x1 x2 x3 x4 x5 x6 x7 x8 x9 x10 x11 x12 x13 x14 x15 x16 x17 x18 x19 x20 x21) := by
  unfold f at H
  refine Rg V_ok 0 [] az ?_
  refine GT (tn [0] 10) (RI ?_)
  refine EV V_ok 0 [] 5 az ?_
  obtain ⟨y1, e2, H⟩ := of_bind H
  refine CL V_ok i_slices_ContainsFunc_Peer_dc1.at_ (i_slices_ContainsFunc_Peer_dc1.ok e2) ?_
  refine EV V_ok 0 [] 2 az ?_
  refine RN ?_
  obtain rfl := Option.some.inj H
  exact Lq (tn [2] 10)
theorem ok {r k x1 x2 x3 x4 x5 x6 x7 x8 x9 x10 x11 x12 x13 x14 x15 x16 x17 x18 x19 x20 x21} (H : f k x1 x2 x3 x4 x5 x6 x7 x8 x9 x10 x11 x12 x13 x14 x15 x16 x17 x18 x19 x20 x21 = some r) : W P 10 c0 (s0 x1 x2 x3 x4 x5 x6 x7 x8 x9 x10 x11 x12 x13 x14 x15 x16 x17 x18 x19 x20 x21) (CallQ 10 (out x1 x2 x3 x4 x5 x6 x7 x8 x9 x10 x11 x12 x13 x14 x15 x16 x17 x18 x19 x20 x21 r)) := of_G (f_ok H)
theorem at_ : FnAt P 73 10 c0 Go.Proofs.Tryd.f73.results := fnAt Go.Proofs.Tryd.func73 (by kernel_rfl) (by decide) (by kernel_rfl) (by kernel_rfl)
end i_control_controller_done_d8b
/-! ### function 37, (*wayfinder/control.controller).flip, where it is called -/

namespace i_control_controller_flip_d8b
noncomputable def c0 : Code := (Go.Proofs.Tryd.f37.body).getD .skip
noncomputable def V : Env := { tt := tt, Γ := slk [] }
theorem V_ok : EnvOk P V := { ck := tt_ck, fits := slk_nil, mixed := mixed }
abbrev R := (Int) × (Int) × Unit
noncomputable def s0 (x1 : T26b3.T) (x2 x3 x4 x5 x6 x7 x8 x9 x10 x11 x12 x13 x14 x15 : Int) (x16 : List (List (List T1383.T))) (x17 : List Int) (x18 : List T23b6.T) (x19 : List T713d.T) (x20 x21 : List Int) : St := ⟨12, [(0, .cv (.one (.ptr 3 0)))], [(.box 13, (encC .any T26b3 x1)), (.box 13, [.nils, .i x2, .i x3, .i x4, .i x5, .i x6, .i x7, .nils, .nils, .nils, .nils, .nils, .i x8]), (.box 6, [.fn 35 [] [], .fn 36 [] [], .fn 37 [] [], .fn 38 [] [], .fn 39 [] [], .fn 39 [] []]), (.box 13, [.own 4, .i x9, .i x10, .i x11, .i x12, .i x13, .i x14, .own 5, .own 6, .own 7, .own 8, .own 9, .i x15]), (.buf 64 (.slice (.slice T1383)) x16, []), (.buf 3 (.int .i64) x17, []), (.buf 50 T23b6 x18, []), (.buf 95 T713d x19, []), (.buf 3 (.int .i64) x20, []), (.buf 3 (.int .i64) x21, [])]⟩
noncomputable def out (x1 : T26b3.T) (x2 x3 x4 x5 x6 x7 x8 x9 x10 x11 x12 x15 : Int) (x16 : List (List (List T1383.T))) (x17 : List Int) (x18 : List T23b6.T) (x19 : List T713d.T) (x20 x21 : List Int) (r : R) : St := ⟨12, [], [(.box 13, (encC .any T26b3 x1)), (.box 13, [.nils, .i x2, .i x3, .i x4, .i x5, .i x6, .i x7, .nils, .nils, .nils, .nils, .nils, .i x8]), (.box 6, [.fn 35 [] [], .fn 36 [] [], .fn 37 [] [], .fn 38 [] [], .fn 39 [] [], .fn 39 [] []]), (.box 13, [.own 4, .i x9, .i x10, .i x11, .i x12, .i r.1, .i r.2.1, .own 5, .own 6, .own 7, .own 8, .own 9, .i x15]), (.buf 64 (.slice (.slice T1383)) x16, []), (.buf 3 (.int .i64) x17, []), (.buf 50 T23b6 x18, []), (.buf 95 T713d x19, []), (.buf 3 (.int .i64) x20, []), (.buf 3 (.int .i64) x21, [])]⟩
abbrev Q (x1 : T26b3.T) (x2 x3 x4 x5 x6 x7 x8 x9 x10 x11 x12 x15 : Int) (x16 : List (List (List T1383.T))) (x17 : List Int) (x18 : List T23b6.T) (x19 : List T713d.T) (x20 x21 : List Int) (r : R) := CallQ 10 (out x1 x2 x3 x4 x5 x6 x7 x8 x9 x10 x11 x12 x15 x16 x17 x18 x19 x20 x21 r)
noncomputable def f (k : Nat) (x1 : T26b3.T) (x2 x3 x4 x5 x6 x7 x8 x9 x10 x11 x12 x13 x14 x15 : Int) (x16 : List (List (List T1383.T))) (x17 : List Int) (x18 : List T23b6.T) (x19 : List T713d.T) (x20 x21 : List Int) : Option R :=
  (i_control_controller_done_d8b.f k x1 x2 x3 x4 x5 x6 x7 x8 x9 x10 x11 x12 x13 x14 x15 x16 x17 x18 x19 x20 x21).bind fun y1 =>
    if y1.1 = true then
      some ((3 : Int), ((18 : Int), ()))
    else
      some (x13, (x14, ()))
theorem f_ok {r k x1 x2 x3 x4 x5 x6 x7 x8 x9 x10 x11 x12 x13 x14 x15 x16 x17 x18 x19 x20 x21} (H : f k x1 x2 x3 x4 x5 x6 x7 x8 x9 x10 x11 x12 x13 x14 x15 x16 x17 x18 x19 x20 x21 = some r) : Gw P 10 (Q x1 x2 x3 x4 x5 x6 x7 x8 x9 x10 x11 x12 x15 x16 x17 x18 x19 x20 x21 r) (Px c0 1 []) (s0 x1 x2 x3 x4 x5 x6 x7 x8 x9 x10 x11 x12 x13 x14 x15 x16 x17 x18 x19 x20 x21) := by
  unfold f at H
  refine GT (tn [0] 10) (RI ?_)
  refine EV V_ok 0 [] 1 az ?_
  obtain ⟨y1, e2, H⟩ := of_bind H
  refine CL V_ok i_control_controller_done_d8b.at_ (i_control_controller_done_d8b.ok e2) ?_
  refine RN ?_
  rcases of_ite H with ⟨hb3, H⟩ | ⟨hb3, H⟩
  · refine C1 hb3 ?_
    refine Rg V_ok 0 [] az ?_
    obtain rfl := Option.some.inj H
    exact Lq (tn [] 10)
  · refine C0 hb3 ?_
    obtain rfl := Option.some.inj H
    exact Lq (tn [] 10)
theorem ok {r k x1 x2 x3 x4 x5 x6 x7 x8 x9 x10 x11 x12 x13 x14 x15 x16 x17 x18 x19 x20 x21} (H : f k x1 x2 x3 x4 x5 x6 x7 x8 x9 x10 x11 x12 x13 x14 x15 x16 x17 x18 x19 x20 x21 = some r) : W P 10 c0 (s0 x1 x2 x3 x4 x5 x6 x7 x8 x9 x10 x11 x12 x13 x14 x15 x16 x17 x18 x19 x20 x21) (CallQ 10 (out x1 x2 x3 x4 x5 x6 x7 x8 x9 x10 x11 x12 x15 x16 x17 x18 x19 x20 x21 r)) := of_G (f_ok H)
theorem at_ : FnAt P 37 12 c0 Go.Proofs.Tryd.f37.results := fnAt Go.Proofs.Tryd.func37 (by kernel_rfl) (by decide) (by kernel_rfl) (by kernel_rfl)
end i_control_controller_flip_d8b
/-! ### function 80, wayfinder/control.all, where it is called -/

namespace i_control_all_1a4
noncomputable def c0 : Code := (Go.Proofs.Tryd.f80.body).getD .skip
noncomputable def V : Env := { tt := tt, Γ := slk [] }
theorem V_ok : EnvOk P V := { ck := tt_ck, fits := slk_nil, mixed := mixed }
abbrev R := Unit
noncomputable def s0 (x1 x2 : Int) (x3 : T26b3.T) (x4 x5 x6 x7 x8 x9 x10 x11 x12 x13 x14 x15 x16 x17 : Int) (x18 : List (List (List T1383.T))) (x19 : List Int) (x20 : List T23b6.T) (x21 : List T713d.T) (x22 x23 : List Int) : St := ⟨6, [(0, .cv (.one (.i x1))), (1, .cv (.one (.i x2)))], [(.box 13, (encC .any T26b3 x3)), (.box 13, [.nils, .i x4, .i x5, .i x6, .i x7, .i x8, .i x9, .nils, .nils, .nils, .nils, .nils, .i x10]), (.box 6, [.fn 35 [] [], .fn 36 [] [], .fn 37 [] [], .fn 38 [] [], .fn 39 [] [], .fn 39 [] []]), (.box 13, [.own 4, .i x11, .i x12, .i x13, .i x14, .i x15, .i x16, .own 5, .own 6, .own 7, .own 8, .own 9, .i x17]), (.buf 64 (.slice (.slice T1383)) x18, []), (.buf 3 (.int .i64) x19, []), (.buf 50 T23b6 x20, []), (.buf 95 T713d x21, []), (.buf 3 (.int .i64) x22, []), (.buf 3 (.int .i64) x23, [])]⟩
noncomputable def out (x1 x2 : Int) (x3 : T26b3.T) (x4 x5 x6 x7 x8 x9 x10 x11 x12 x13 x14 x15 x16 x17 : Int) (x18 : List (List (List T1383.T))) (x19 : List Int) (x20 : List T23b6.T) (x21 : List T713d.T) (x22 x23 : List Int) (r : R) : St := ⟨6, [(4, .cv (.one (.fn 99 [] [(10, 0), (11, 0)])))], [(.box 13, (encC .any T26b3 x3)), (.box 13, [.nils, .i x4, .i x5, .i x6, .i x7, .i x8, .i x9, .nils, .nils, .nils, .nils, .nils, .i x10]), (.box 6, [.fn 35 [] [], .fn 36 [] [], .fn 37 [] [], .fn 38 [] [], .fn 39 [] [], .fn 39 [] []]), (.box 13, [.own 4, .i x11, .i x12, .i x13, .i x14, .i x15, .i x16, .own 5, .own 6, .own 7, .own 8, .own 9, .i x17]), (.buf 64 (.slice (.slice T1383)) x18, []), (.buf 3 (.int .i64) x19, []), (.buf 50 T23b6 x20, []), (.buf 95 T713d x21, []), (.buf 3 (.int .i64) x22, []), (.buf 3 (.int .i64) x23, []), (.box 1, [.i x1]), (.box 1, [.i x2])]⟩
abbrev Q (x1 x2 : Int) (x3 : T26b3.T) (x4 x5 x6 x7 x8 x9 x10 x11 x12 x13 x14 x15 x16 x17 : Int) (x18 : List (List (List T1383.T))) (x19 : List Int) (x20 : List T23b6.T) (x21 : List T713d.T) (x22 x23 : List Int) (r : R) := CallQ 10 (out x1 x2 x3 x4 x5 x6 x7 x8 x9 x10 x11 x12 x13 x14 x15 x16 x17 x18 x19 x20 x21 x22 x23 r)
noncomputable def f (k : Nat) (x1 x2 : Int) (x3 : T26b3.T) (x4 x5 x6 x7 x8 x9 x10 x11 x12 x13 x14 x15 x16 x17 : Int) (x18 : List (List (List T1383.T))) (x19 : List Int) (x20 : List T23b6.T) (x21 : List T713d.T) (x22 x23 : List Int) : Option R :=
  some ()
theorem f_ok {r k x1 x2 x3 x4 x5 x6 x7 x8 x9 x10 x11 x12 x13 x14 x15 x16 x17 x18 x19 x20 x21 x22 x23} (H : f k x1 x2 x3 x4 x5 x6 x7 x8 x9 x10 x11 x12 x13 x14 x15 x16 x17 x18 x19 x20 x21 x22 x23 = some r) : Gw P 10 (Q x1 x2 x3 x4 x5 x6 x7 x8 x9 x10 x11 x12 x13 x14 x15 x16 x17 x18 x19 x20 x21 x22 x23 r) (Px c0 1 []) (s0 x1 x2 x3 x4 x5 x6 x7 x8 x9 x10 x11 x12 x13 x14 x15 x16 x17 x18 x19 x20 x21 x22 x23) := by
  unfold f at H
  refine Rg V_ok 2 [(0, hb 10), (1, hb 11)] az ?_
  refine Rg V_ok 0 [] az ?_
  obtain rfl := Option.some.inj H
  exact Lq (tn [4] 12)
theorem ok {r k x1 x2 x3 x4 x5 x6 x7 x8 x9 x10 x11 x12 x13 x14 x15 x16 x17 x18 x19 x20 x21 x22 x23} (H : f k x1 x2 x3 x4 x5 x6 x7 x8 x9 x10 x11 x12 x13 x14 x15 x16 x17 x18 x19 x20 x21 x22 x23 = some r) : W P 10 c0 (s0 x1 x2 x3 x4 x5 x6 x7 x8 x9 x10 x11 x12 x13 x14 x15 x16 x17 x18 x19 x20 x21 x22 x23) (CallQ 10 (out x1 x2 x3 x4 x5 x6 x7 x8 x9 x10 x11 x12 x13 x14 x15 x16 x17 x18 x19 x20 x21 x22 x23 r)) := of_G (f_ok H)
theorem at_ : FnAt P 80 6 c0 Go.Proofs.Tryd.f80.results := fnAt Go.Proofs.Tryd.func80 (by kernel_rfl) (by decide) (by kernel_rfl) (by kernel_rfl)
end i_control_all_1a4
/-! ### function 99, wayfinder/control.all$1, where it is called -/

namespace i_control_all_1_252
noncomputable def c0 : Code := (Go.Proofs.Tryd.f99.body).getD .skip
noncomputable def V : Env := { tt := tt, Γ := slk [] }
theorem V_ok : EnvOk P V := { ck := tt_ck, fits := slk_nil, mixed := mixed }
abbrev R := (List T4414.T) × Unit
noncomputable def s0 (x1 : Int) (x2 : T26b3.T) (x3 x4 x5 x6 x7 x8 x9 x10 x11 x12 x13 x14 x15 x16 : Int) (x17 : List (List (List T1383.T))) (x18 : List Int) (x19 : List T23b6.T) (x20 : List T713d.T) (x21 x22 : List Int) (x23 x24 : Int) : St := ⟨9, [(0, .cv (.one (.i x1))), (1, .cv (.one (.ptr 10 0))), (2, .cv (.one (.ptr 11 0)))], [(.box 13, (encC .any T26b3 x2)), (.box 13, [.nils, .i x3, .i x4, .i x5, .i x6, .i x7, .i x8, .nils, .nils, .nils, .nils, .nils, .i x9]), (.box 6, [.fn 35 [] [], .fn 36 [] [], .fn 37 [] [], .fn 38 [] [], .fn 39 [] [], .fn 39 [] []]), (.box 13, [.own 4, .i x10, .i x11, .i x12, .i x13, .i x14, .i x15, .own 5, .own 6, .own 7, .own 8, .own 9, .i x16]), (.buf 64 (.slice (.slice T1383)) x17, []), (.buf 3 (.int .i64) x18, []), (.buf 50 T23b6 x19, []), (.buf 95 T713d x20, []), (.buf 3 (.int .i64) x21, []), (.buf 3 (.int .i64) x22, []), (.box 1, [.i x23]), (.box 1, [.i x24])]⟩
noncomputable def out (x2 : T26b3.T) (x3 x4 x5 x6 x7 x8 x9 x10 x11 x12 x13 x14 x15 x16 : Int) (x17 : List (List (List T1383.T))) (x18 : List Int) (x19 : List T23b6.T) (x20 : List T713d.T) (x21 x22 : List Int) (x23 x24 : Int) (r : R) : St := ⟨9, [(4, .cv (.one (.sl T4414 r.1 .full)))], [(.box 13, (encC .any T26b3 x2)), (.box 13, [.nils, .i x3, .i x4, .i x5, .i x6, .i x7, .i x8, .nils, .nils, .nils, .nils, .nils, .i x9]), (.box 6, [.fn 35 [] [], .fn 36 [] [], .fn 37 [] [], .fn 38 [] [], .fn 39 [] [], .fn 39 [] []]), (.box 13, [.own 4, .i x10, .i x11, .i x12, .i x13, .i x14, .i x15, .own 5, .own 6, .own 7, .own 8, .own 9, .i x16]), (.buf 64 (.slice (.slice T1383)) x17, []), (.buf 3 (.int .i64) x18, []), (.buf 50 T23b6 x19, []), (.buf 95 T713d x20, []), (.buf 3 (.int .i64) x21, []), (.buf 3 (.int .i64) x22, []), (.box 1, [.i x23]), (.box 1, [.i x24])]⟩
abbrev Q (x2 : T26b3.T) (x3 x4 x5 x6 x7 x8 x9 x10 x11 x12 x13 x14 x15 x16 : Int) (x17 : List (List (List T1383.T))) (x18 : List Int) (x19 : List T23b6.T) (x20 : List T713d.T) (x21 x22 : List Int) (x23 x24 : Int) (r : R) := CallQ 12 (out x2 x3 x4 x5 x6 x7 x8 x9 x10 x11 x12 x13 x14 x15 x16 x17 x18 x19 x20 x21 x22 x23 x24 r)
noncomputable def f (k : Nat) (x1 : Int) (x2 : T26b3.T) (x3 x4 x5 x6 x7 x8 x9 x10 x11 x12 x13 x14 x15 x16 : Int) (x17 : List (List (List T1383.T))) (x18 : List Int) (x19 : List T23b6.T) (x20 : List T713d.T) (x21 x22 : List Int) (x23 x24 : Int) : Option R :=
  some ([(x23, (0, (0, (x24, ((0, 0), (0, (0, (0, 0))))))))], ())
theorem f_ok {r k x1 x2 x3 x4 x5 x6 x7 x8 x9 x10 x11 x12 x13 x14 x15 x16 x17 x18 x19 x20 x21 x22 x23 x24} (H : f k x1 x2 x3 x4 x5 x6 x7 x8 x9 x10 x11 x12 x13 x14 x15 x16 x17 x18 x19 x20 x21 x22 x23 x24 = some r) : Gw P 12 (Q x2 x3 x4 x5 x6 x7 x8 x9 x10 x11 x12 x13 x14 x15 x16 x17 x18 x19 x20 x21 x22 x23 x24 r) (Px c0 1 []) (s0 x1 x2 x3 x4 x5 x6 x7 x8 x9 x10 x11 x12 x13 x14 x15 x16 x17 x18 x19 x20 x21 x22 x23 x24) := by
  unfold f at H
  refine Rg V_ok 0 [] az ?_
  refine Rg V_ok 0 [] az ?_
  obtain rfl := Option.some.inj H
  exact Lq (tn [4] 12)
theorem ok {r k x1 x2 x3 x4 x5 x6 x7 x8 x9 x10 x11 x12 x13 x14 x15 x16 x17 x18 x19 x20 x21 x22 x23 x24} (H : f k x1 x2 x3 x4 x5 x6 x7 x8 x9 x10 x11 x12 x13 x14 x15 x16 x17 x18 x19 x20 x21 x22 x23 x24 = some r) : W P 12 c0 (s0 x1 x2 x3 x4 x5 x6 x7 x8 x9 x10 x11 x12 x13 x14 x15 x16 x17 x18 x19 x20 x21 x22 x23 x24) (CallQ 12 (out x2 x3 x4 x5 x6 x7 x8 x9 x10 x11 x12 x13 x14 x15 x16 x17 x18 x19 x20 x21 x22 x23 x24 r)) := of_G (f_ok H)
theorem at_ : FnAt P 99 9 c0 Go.Proofs.Tryd.f99.results := fnAt Go.Proofs.Tryd.func99 (by kernel_rfl) (by decide) (by kernel_rfl) (by kernel_rfl)
end i_control_all_1_252
/-! ### function 75, (*wayfinder/control.controller).tell, where it is called -/

end Go.Proofs.YtkhjemahenkdiaaDoor.V
