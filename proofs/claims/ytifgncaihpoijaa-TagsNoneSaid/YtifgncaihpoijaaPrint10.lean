/- A text that a program of this session printed out of the translation: checked by Lean alone. -/
import Derived.Test.YtifgncaihpoijaaPrint0
import Derived.Test.YtifgncaihpoijaaPrintH
import Derived.RangeFuncNested
import Derived.RangeFuncBound
import Derived.RangeFuncCalls
import Derived.RangeFuncLeaves
import Derived.Shelf.Abstract
import Derived.Shelf.RegionOpen
import Derived.OwnWalkIn
import Derived.TacticsInMore
import Derived.LoopNIn
import Derived.LoopIn
namespace Go.Proofs.Ytifgncaihpoijaa.Print
open Go.RowKit Go.Proofs.YtifgncaihpoijaaW.PrintWords Go.Proofs.YtifgncaihpoijaaW.PrintLast Go.Proofs.YtifgncaihpoijaaW.PrintMore
attribute [local go_sem] max2_int min2_int max_two min_two max_three min_three max_four min_four   -- for this text's walks alone
set_option linter.unusedVariables false
set_option linter.unusedSimpArgs false

/-! ### tags_Of: function 21 -/
open Go.Shelf
attribute [local go_sem] Oper.semAt_some
/-- the last ones, one behind the other, with their places -/
def backL (l : List S47) (k : Nat) : List (Nat × S47) := (List.range k).map fun j => (l.length - 1 - j, rd_T47 l ((l.length - 1 - j : Nat) : Int))
theorem backL_succ (l : List S47) (k : Nat) : backL l (k + 1) = backL l k ++ [(l.length - 1 - k, rd_T47 l ((l.length - 1 - k : Nat) : Int))] := by simp [backL, List.range_succ]
theorem backL_length (l : List S47) (k : Nat) : (backL l k).length = k := by simp [backL]
def encB (x : Nat × S47) : Array Value := #[.int .i64 (x.1 : Int), .agg #[.int .i64 x.2.f0, .int .i64 x.2.f1]]
set_option maxRecDepth 100000 in
set_option maxHeartbeats 2000000 in
theorem backward_in (F : Fence) (n : Nat) (h37 : F.fn 37) (hro : F.round = none) (a : Option Addr) (len cap : Nat) (w : World) :
    CallsIn F n Try.prog 37 #[.slice a len cap] w fun e w' => e = .returned (.func (.func 44) #[] #[.pointer (some ⟨w.heap.size, 0, none⟩)]) ∧ w' = w.alloc (.cells #[.slice a len cap] 40) := by
  refine callsIn_of_wp Try.func37 rfl h37 ?_ hro
  simp only [Try.ntmps37, List.size_toArray, List.length_cons, List.length_nil, Nat.reduceAdd, Nat.reduceSub, Array.replicate_succ, Array.replicate_zero, List.push_toArray, List.append_toArray, List.nil_append, List.cons_append]
  gi_wp2
  go_ret
  exact ⟨rfl, rfl⟩
set_option maxRecDepth 100000 in
set_option maxHeartbeats 2000000 in
theorem backward1_in (F : Fence) (n : Nat) (h44 : F.fn 44) (hro : F.round = none) (hn : 1 ≤ n) (l Bs n₀ cap : Nat) (A : Option Addr) (xs : List S47) (hbs : Bs < n₀) (J Jx : List (Nat × S47) → World → Prop)
    (hY : ∀ pre x W, J pre W → pre.length < xs.length → YieldAt F (n - 1) Try.prog l (encB x) W fun e W' =>
      (e = .returned (.bool true) ∧ J (pre ++ [x]) W' ∧ Below n₀ W W') ∨ (e = .returned (.bool false) ∧ Jx (pre ++ [x]) W'))
    (W : World) (hBs : W.cell? ⟨Bs, 0, none⟩ = some (.slice A xs.length cap)) (hC : ∀ W', Below n₀ W W' → Kd.C k47 W' A xs.length xs) (h0 : J [] W) :
    CallsIn F n Try.prog 44 #[.func (.yield l) #[] #[], .pointer (some ⟨Bs, 0, none⟩)] W fun e W' => (∃ v, e = .returned v) ∧
      ((∃ ys, ys = backL xs xs.length ∧ J ys W') ∨ (∃ pre, (∃ k, k ≤ xs.length ∧ pre = backL xs k) ∧ Jx pre W')) := by
  have HC := Aside0.mk hC
  have hmx : xs.length ≤ 9223372036854775807 := (hC W (Below.refl _ _)).2.1
  clear hC
  refine callsIn_of_wp Try.func44 rfl h44 ?_ hro
  simp only [Try.ntmps44, List.size_toArray, List.length_cons, List.length_nil, Nat.reduceAdd, Nat.reduceSub, Array.replicate_succ, Array.replicate_zero, List.push_toArray, List.append_toArray, List.nil_append, List.cons_append]
  gi_wp2
  gi_loopw [3] (fun i wr => ∃ k : Nat, k ≤ xs.length ∧ i = .int .i64 ((xs.length : Int) - 1 - k) ∧ Aside0 (J (backL xs k) wr) ∧ Aside0 (Below n₀ W wr))
    (fun i _ => ((intOf i) + 1).toNat)
  case atStart => exact ⟨0, Nat.zero_le _, by simp, ⟨h0⟩, ⟨Below.refl _ _⟩⟩
  case round =>
    obtain ⟨k, hk, rfl, HJ, HB⟩ := hrel
    have hbx : wr.cell? ⟨Bs, 0, none⟩ = some (.slice A xs.length cap) := (HB.out.cell (p := ⟨Bs, 0, none⟩) hbs).trans hBs
    clear hBs h0
    by_cases hlt : k < xs.length
    · obtain ⟨g, HG⟩ : ∃ g, Aside0 (rd_T47 xs ((xs.length : Int) - 1 - k) = g) := ⟨_, ⟨rfl⟩⟩
      have hcx := at_T47 (HC.out wr HB.out) ((xs.length : Int) - 1 - k) (by omega) (by omega)
      rw [HG.out, show ((xs.length : Int) - 1 - k).toNat = xs.length - 1 - k by omega] at hcx
      obtain ⟨ad, e, hx0, hx1⟩ := hcx
      subst e
      have hsn := backL_succ xs k
      rw [show (((xs.length - 1 - k : Nat)) : Int) = (xs.length : Int) - 1 - k by omega, HG.out] at hsn
      have HS := Aside0.mk hsn
      clear hsn
      obtain ⟨fn, tmps, assign, body, hy, hR⟩ := hY _ (xs.length - 1 - k, g) wr HJ.out (by rw [backL_length]; exact hlt)
      dsimp only [encB] at hy
      rw [show (((xs.length - 1 - k : Nat)) : Int) = (xs.length : Int) - 1 - k by omega] at hy
      gi_wp2
      refine hR.mono ?_
      rintro e W3 (⟨rfl, hJ3, hk3⟩ | ⟨rfl, hJx3⟩)
      · rw [← HS.out] at hJ3
        have HJ3 := Aside0.mk hJ3
        have HK3 := Aside0.mk hk3
        clear hJ3 hk3
        gi_wp2
        go_roundw
        case rel => exact ⟨k + 1, by omega, by first | (congr 1; omega) | (simp; omega), HJ3, ⟨HB.out.trans HK3.out⟩⟩
        case measure => simp [intOf]; omega
      · gi_wp2
        refine bodyPost_ret (results_none rfl _ _ _) rfl ?_
        exact ⟨⟨_, rfl⟩, .inr ⟨_, ⟨k + 1, by omega, HS.out.symm⟩, hJx3⟩⟩
    · obtain rfl : k = xs.length := by omega
      gi_wp2
      go_end0
      exact ⟨⟨_, rfl⟩, .inl ⟨_, rfl, HJ.out⟩⟩
theorem backL_prefix (l : List S47) (k : Nat) (hk : k ≤ l.length) : ∃ r, backL l l.length = backL l k ++ r := by
  obtain ⟨m, hm⟩ : ∃ m, l.length = k + m := ⟨l.length - k, by omega⟩
  exact ⟨(List.range m).map fun j => (l.length - 1 - (k + j), rd_T47 l ((l.length - 1 - (k + j) : Nat) : Int)), by
    unfold backL
    rw [show List.range l.length = List.range (k + m) by rw [hm], List.range_add, List.map_append, List.map_map]
    rfl⟩
theorem backward_stops (F : Fence) (n : Nat) (h44 : F.fn 44) (hro : F.round = none) (hn : 1 ≤ n) (Bs n₀ cap : Nat) (A : Option Addr) (xs : List S47) (w : World) (hBs : Bs < n₀) (hn₀ : n₀ ≤ w.heap.size)
    (hc : w.cell? ⟨Bs, 0, none⟩ = some (.slice A xs.length cap)) (hC : ∀ W', Below n₀ w W' → Kd.C k47 W' A xs.length xs) :
    SeqStopsK F n Try.prog 44 #[.pointer (some ⟨Bs, 0, none⟩)] encB (Below n₀) (fun ys => ys = backL xs xs.length) (fun pre => ∃ k, k ≤ xs.length ∧ pre = backL xs k) xs.length w := fun l J Jx W hW _ _ hY h0 =>
  backward1_in F n h44 hro hn l Bs n₀ cap A xs hBs J Jx hY W ((hW.cell (p := ⟨Bs, 0, none⟩) (Nat.lt_of_lt_of_le hBs hn₀)).trans hc) (fun W' hW' => hC W' ((hW.mono hn₀).trans hW')) h0
def ofSpec (l : List S47) (tag : Int) : Int := ((l.reverse.find? (fun g => g.f0 == tag)).map (·.f1)).getD (-1)
theorem backL_rev (l : List S47) : (backL l l.length).map (·.2) = l.reverse := by
  apply List.ext_getElem
  · simp [backL]
  · intro i h1 h2
    have hi : i < l.length := by simpa using h2
    simp only [backL, List.map_map, List.getElem_map, List.getElem_range, Function.comp, List.getElem_reverse, rd_T47]
    rw [show (((l.length - 1 - i : Nat)) : Int).toNat = l.length - 1 - i by omega, List.getD_eq_getElem?_getD, List.getElem?_eq_getElem (by omega)]
    rfl
theorem of_none (l : List S47) (tag : Int) (h : ∀ p ∈ backL l l.length, p.2.f0 ≠ tag) : ofSpec l tag = -1 := by
  unfold ofSpec
  rw [← backL_rev, List.find?_eq_none.2 (by
    intro x hx
    obtain ⟨p, hp, rfl⟩ := List.mem_map.1 hx
    simpa using h p hp)]
  rfl
theorem of_some (l : List S47) (tag : Int) (k : Nat) (hk : k ≤ l.length) (ini : List (Nat × S47)) (last : Nat × S47) (e : backL l k = ini ++ [last]) (h : ∀ p ∈ ini, p.2.f0 ≠ tag) (hl : last.2.f0 = tag) : ofSpec l tag = last.2.f1 := by
  obtain ⟨r, hr⟩ := backL_prefix l k hk
  unfold ofSpec
  rw [← backL_rev, hr, e]
  have : (List.map (·.2) (ini ++ [last] ++ r)).find? (fun g => g.f0 == tag) = some last.2 := by
    rw [List.map_append, List.map_append, List.append_assoc, List.find?_append, List.find?_eq_none.2 (by
      intro x hx
      obtain ⟨p, hp, rfl⟩ := List.mem_map.1 hx
      simpa using h p hp)]
    simp [hl]
  rw [this]; rfl
set_option maxRecDepth 100000 in
set_option maxHeartbeats 4000000 in
theorem tags_Of_in (F : Fence) (n : Nat) (h21 : F.fn 21) (h37 : F.fn 37) (h44 : F.fn 44) (hro : F.round = none) (hn : 4 ≤ n) (A0 : Option Addr) (c0 : Nat) (l0 : List S47) (a1 : Int) (w : World) (hr0 : Kd.C k47 w A0 l0.length l0) :
    CallsIn F n Try.prog 21 #[.slice A0 l0.length c0, .int .i64 a1] w fun e w' => e = .returned (.int .i64 (ofSpec l0 a1)) ∧ Below w.heap.size w w' := by
  have h1 : 1 ≤ n := by omega
  refine callsIn_of_wp_marks Try.func21 rfl h21 ?_ hro
  simp only [Try.ntmps21, List.size_toArray, List.length_cons, List.length_nil, Nat.reduceAdd, Nat.reduceSub, Array.replicate_succ, Array.replicate_zero, List.push_toArray, List.append_toArray, List.nil_append, List.cons_append]
  gi_wp2_with (gi_at_call 37; refine (backward_in F (n - 1) h37 hro _ _ _ _).mono ?_; rintro e w' ⟨rfl, rfl⟩)
  have bT := ((Boxed.new w 3 (.int .i64 a1)).alloc (.cells #[.int .i64 0] 3)).alloc (.cells #[.slice A0 l0.length c0] 40)
  have bR := (Boxed.new (w.alloc (.cells #[.int .i64 a1] 3)) 3 (.int .i64 0)).alloc (.cells #[.slice A0 l0.length c0] 40)
  have bS := Boxed.new ((w.alloc (.cells #[.int .i64 a1] 3)).alloc (.cells #[.int .i64 0] 3)) 40 (.slice A0 l0.length c0)
  simp only [World.size_alloc] at bR bS
  have hB0 : Below w.heap.size w (((w.alloc (.cells #[.int .i64 a1] 3)).alloc (.cells #[.int .i64 0] 3)).alloc (.cells #[.slice A0 l0.length c0] 40)) := (((Below.refl _ w).alloc (Nat.le_refl _) _).alloc (by simp) _).alloc (by simp; omega) _
  have hsz : (((w.alloc (.cells #[.int .i64 a1] 3)).alloc (.cells #[.int .i64 0] 3)).alloc (.cells #[.slice A0 l0.length c0] 40)).heap.size = w.heap.size + 3 := by simp
  obtain ⟨W0, hW0⟩ : ∃ W0, ((w.alloc (.cells #[.int .i64 a1] 3)).alloc (.cells #[.int .i64 0] 3)).alloc (.cells #[.slice A0 l0.length c0] 40) = W0 := ⟨_, rfl⟩
  rw [hW0] at bT bR bS hB0 hsz ⊢
  clear hW0
  refine wpIn_rangeFunc_ownH hro h1 (gf := 44) (lb := #[.pointer (some ⟨w.heap.size + 1 + 1, 0, none⟩)]) rfl h44 (enters_of Try.func44 (by kernel_rfl) rfl)
    (backward_stops F (n - 1) h44 hro (by omega) (w.heap.size + 1 + 1) W0.heap.size c0 A0 l0 W0 (by omega) (Nat.le_refl _) bS.cell (fun W' hW' => Kd.C_below hr0 (hB0.trans (hW'.mono (by omega))))) belowK_t (belowK_b (Nat.le_refl _)) (Below.refl _ _) (fun _ => rfl)
    (fun pre W => (((Boxed W w.heap.size 3 (.int .i64 a1) ∧ Boxed W (w.heap.size + 1 + 1) 40 (.slice A0 l0.length c0)) ∧ Boxed W (w.heap.size + 1) 3 (.int .i64 0)) ∧ (∀ p ∈ pre, p.2.f0 ≠ a1)) ∧ Below w.heap.size w W)
    (fun c pre W => ((c = .ret ∧ ∃ (ini : List (Nat × S47)) (last : Nat × S47), pre = ini ++ [last] ∧ (∀ p ∈ ini, p.2.f0 ≠ a1) ∧ last.2.f0 = a1) ∧ Boxed W (w.heap.size + 1) 3 (.int .i64 (((pre.getLast?).map (·.2.f1)).getD 0))) ∧ Below w.heap.size w W)
    (OwnFrom.and (OwnFrom.and (OwnFrom.and (OwnFrom.and (Own.from (boxed_own _ _ _) _) (Own.from (boxed_own _ _ _) _)) (Own.from (boxed_own _ _ _) _)) (ownFrom_pure _ _)) (ownFrom_below (Nat.le_refl _) (by omega)))
    (fun c => OwnFrom.and (OwnFrom.and (ownFrom_pure _ _) (Own.from (boxed_own _ _ _) _)) (ownFrom_below (Nat.le_refl _) (by omega)))
    ⟨⟨⟨⟨bT, bS⟩, bR⟩, by simp⟩, hB0⟩
    (fun x a' W => ∃ Bx, w.heap.size + 2 < Bx ∧ W.heap[Bx]? = some (.cells #[.int .i64 x.2.f0, .int .i64 x.2.f1] 47 (0, 0)) ∧ a' = { tmps := #[.slice A0 l0.length c0, .int .i64 a1, undef, .pointer (some ⟨w.heap.size, 0, none⟩), .pointer (some ⟨w.heap.size + 1, 0, none⟩), undef, .pointer (some ⟨Bx, 0, none⟩), .slice A0 l0.length c0, .func (.func 44) #[] #[.pointer (some ⟨w.heap.size + 1 + 1, 0, none⟩)], .int .i64 (x.1 : Int), .agg #[.int .i64 x.2.f0, .int .i64 x.2.f1], undef, undef, undef, undef, undef, undef], defers := [] })
    ?hAx ?assign ?body ?done ?stop
  case hAx =>
    rintro x a' s W W' row ⟨Bx, hB1, hB2, rfl⟩ hg hr
    refine ⟨Bx, hB1, ?_, rfl⟩
    rw [hg.block Bx (Array.getElem?_eq_some_iff.1 hB2).1 (fun e => ?_)]
    · exact hB2
    · obtain ⟨_, o, ho, hc⟩ := hr Bx e.symm
      rw [hB2] at ho
      cases ho
      cases hc
  case assign =>
    rintro l pre x W K ⟨⟨⟨⟨hT, hS⟩, hR⟩, hP⟩, hB⟩ hK
    have hW0 : w.heap.size + 2 < W.heap.size := by have := hS.lt; omega
    simp only [encB]
    gi_wp2
    exact hK _ _ ((KeepsOthers.alloc _ _).from _) ((Below.refl _ W).alloc (by omega) _) ⟨⟨⟨⟨hT.alloc _, hS.alloc _⟩, hR.alloc _⟩, hP⟩, hB.alloc hB.size _⟩ ⟨W.heap.size, hW0, heap_alloc_new _ _, rfl⟩
  case body =>
    rintro l pre x a' W hl ⟨r, hr⟩ ⟨⟨⟨⟨hT, hS⟩, hR⟩, hP⟩, hB⟩ ⟨Bx, hBx, hX, rfl⟩ hlt
    have c0x : W.cell? ⟨Bx, 0, none⟩ = some (.int .i64 x.2.f0) := by rw [cell_of_row _ _ _ _ _ _ hX]; rfl
    have c1x : W.cell? ⟨Bx, 1, none⟩ = some (.int .i64 x.2.f1) := by rw [cell_of_row _ _ _ _ _ _ hX]; rfl
    have cT := hT.cell
    have cR := hR.cell
    have fR := hR.frozen
    by_cases hx : x.2.f0 = a1
    · have hxb : (x.2.f0 == a1) = true := beq_iff_eq.mpr hx
      have HX := Aside0.mk hx
      have HP := Aside0.mk hP
      clear hx hP
      gi_wp2
      exact ⟨(KeepsOthers.setCell _ _ _).from _, ⟨⟨rfl, pre, x, rfl, HP.out, HX.out⟩, by rw [show (((pre ++ [x]).getLast?).map (·.2.f1)).getD 0 = x.2.f1 by simp]; exact heap_setCell_same _ _ _ _ _ _ hR⟩, hB.setCell (p := ⟨w.heap.size + 1, 0, none⟩) (by simp) _⟩
    · have hxb : (x.2.f0 == a1) = false := beq_eq_false_iff_ne.mpr hx
      have HX := Aside0.mk hx
      have HP := Aside0.mk hP
      clear hx hP
      gi_wp2
      refine ⟨KeepsFrom.refl _ _, Below.refl _ _, ⟨⟨⟨⟨hT, hS⟩, hR⟩, ?_⟩, hB⟩⟩
      intro p hp
      rcases List.mem_append.1 hp with hp | hp
      · exact HP.out p hp
      · rw [List.mem_singleton.1 hp]; exact HX.out
  case done =>
    rintro D ys W hD rfl ⟨⟨⟨⟨hT, hS⟩, hR⟩, hP⟩, hB⟩ hK
    have cR := hR.cell
    have fR := hR.frozen
    have HN := Aside0.mk (of_none l0 a1 hP)
    clear hP
    gi_wp2
    have hK' := (KeepsOthers.setCell W ⟨w.heap.size + 1, 0, none⟩ (.int .i64 (-1))).same D _ hK rfl
    refine ⟨by simp, .inl ⟨_, _, rfl, run_takeDeferred hK', ?_⟩⟩
    have hc5 := cell_kept (World.cell?_setCell_same' W ⟨w.heap.size + 1, 0, none⟩ (.int .i64 (-1)) (by rw [cR]; rfl)) (grownBy_putObj' _ D (.deferred none)) (fun r e => by cases e; exact ⟨_, hK', rfl⟩)
    refine ⟨.int .i64 (-1), ?_, by rw [HN.out], (hB.setCell (p := ⟨w.heap.size + 1, 0, none⟩) (by simp) _).trans (belowK_b (w := w) (Nat.le_refl _) _ D _ _ (by omega) hK' rfl rfl)⟩
    simp [results, Try.f21, go_sem, hc5]
  case stop =>
    rintro D c pre W hD ⟨k, hk, rfl⟩ ⟨⟨⟨rfl, ini, last, e1, e2, e3⟩, hR⟩, hB⟩ hK
    have HN := Aside0.mk (of_some l0 a1 k hk ini last e1 e2 e3)
    rw [e1, show (((ini ++ [last]).getLast?).map (·.2.f1)).getD 0 = last.2.f1 by simp, ← HN.out] at hR
    clear e1 e2 e3
    gi_wp2
    refine ⟨by simp, .inl ⟨_, _, rfl, run_takeDeferred hK, ?_⟩⟩
    have hc5 := cell_kept hR.cell (grownBy_putObj' _ D (.deferred none)) (fun r e => by cases e; exact ⟨_, hK, rfl⟩)
    refine ⟨.int .i64 (ofSpec l0 a1), ?_, rfl, hB.trans (belowK_b (w := w) (Nat.le_refl _) W D _ _ (by omega) hK rfl rfl)⟩
    simp [results, Try.f21, go_sem, hc5]

def tags_Of.f (l0 : List (S47)) (a1 : Int) : Option (Int) := some (ofSpec l0 a1)
set_option maxHeartbeats 8000000 in
set_option maxRecDepth 100000 in
theorem tags_Of.calls (A0 : Option Addr) (c0 : Nat) (l0 : List (S47)) (a1 : Int) (r : Int) (w : World) (hr0 : Kd.C k47 w A0 l0.length l0) (hc0 : l0.length ≤ c0) (h : tags_Of.f l0 a1 = some r) :
    Calls Try.prog 21 #[.slice A0 l0.length c0, .int .i64 a1] w fun e w' => e = .returned (.int .i64 r) ∧ Below w.heap.size w w' := by
  unfold tags_Of.f at h
  obtain rfl := Option.some.inj h
  exact callsIn_wide.1 (tags_Of_in Fence.wide 4 trivial trivial trivial rfl (Nat.le_refl _) A0 c0 l0 a1 w hr0)

end Go.Proofs.Ytifgncaihpoijaa.Print
