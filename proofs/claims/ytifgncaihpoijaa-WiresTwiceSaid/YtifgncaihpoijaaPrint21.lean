/- A text that a program of this session printed out of the translation: checked by Lean alone. -/
import Derived.Test.YtifgncaihpoijaaPrint0
import Derived.Test.YtifgncaihpoijaaPrint18
import Derived.Test.YtifgncaihpoijaaPrint19
import Derived.Test.YtifgncaihpoijaaPrintH
namespace Go.Proofs.Ytifgncaihpoijaa.Print
open Go.RowKit Go.Proofs.YtifgncaihpoijaaW.PrintWords Go.Proofs.YtifgncaihpoijaaW.PrintLast Go.Proofs.YtifgncaihpoijaaW.PrintMore
attribute [local go_sem] max2_int min2_int max_two min_two max_three min_three max_four min_four   -- for this text's walks alone
set_option linter.unusedVariables false
set_option linter.unusedSimpArgs false

/-! ### wires_Fate: function 28 -/
theorem zeroWire : ∀ w, (zeroValue 54).run Try.prog w = .ok (.agg #[.int .i64 0, .bool false, .slice none 0 0]) w :=
  (zero_of_info (n := 3) (by kernel_rfl : (Try.prog.info? 54).map (fun i => (i.zero, i.size)) = some (some (.agg #[.int .i64 0, .bool false, .slice none 0 0]), 3))).1
set_option maxHeartbeats 1600000 in
set_option maxRecDepth 1000000 in
theorem delWire_walk (g n c i : Nat) (cur : Array Value) (w : World) (hi : i < n) (hl : n ≤ c) (hm : c ≤ 9223372036854775807) (hg : w.heap[g]? = some (.cells cur 54 (0, 0))) (hcs : n * 3 ≤ cur.size) (h1 : ∀ u ∈ cur.toList.take (n * 3), u.oneCell' = true) :
    Calls Try.prog 40 #[.slice (some ⟨g, 0, none⟩) n c, .int .i64 i, .int .i64 ((i : Int) + 1)] w fun e w' => e = .returned (.slice (some ⟨g, 0, none⟩) (n - 1) c) ∧ w' = (w.drew.setCells g (i * 3) ((cur.toList.drop ((i + 1) * 3)).take ((n - (i + 1)) * 3))).setCells g ((n - 1) * 3) [.int .i64 0, .bool false, .slice none 0 0] := by
  obtain ⟨i0, hi0, hz0, hz1, hz2⟩ := info_parts info54
  have hcell : ∀ j u, cur[j]? = some u → w.drew.cell? ⟨g, j, none⟩ = some u := fun j u hu => by
    show w.cell? _ = _
    rw [cell_of_row _ _ _ _ _ _ hg, hu]
  obtain ⟨mv, hmv⟩ : ∃ mv, mv = (cur.toList.drop ((i + 1) * 3)).take ((n - (i + 1)) * 3) := ⟨_, rfl⟩
  have hml : mv.length = (n - (i + 1)) * 3 := by rw [hmv, List.length_take, List.length_drop, Array.length_toList]; omega
  obtain ⟨A, hA, hnews⟩ : ∃ A : Addr, (if c = i + 1 then some (⟨g, 0, none⟩ : Addr) else some ⟨g, (i + 1) * 3, none⟩) = some A ∧ Hid (∀ j u, mv[j]? = some u → w.drew.cell? (A.add j) = some u) := by
    by_cases h : c = i + 1
    · refine ⟨⟨g, 0, none⟩, by simp [h], fun j u hu => ?_⟩
      have h0 : mv.length = 0 := by rw [hml]; omega
      rw [List.length_eq_zero_iff.1 h0] at hu
      simp at hu
    · refine ⟨⟨g, (i + 1) * 3, none⟩, by simp [h], fun j u hu => ?_⟩
      have hj := (List.getElem?_eq_some_iff.1 hu).1
      rw [hmv, List.getElem?_take, if_pos (by omega), List.getElem?_drop, Array.getElem?_toList] at hu
      rw [Addr.add_lit]
      exact hcell _ _ hu
  have s1 : Hid (mv.length = (n - (i + 1)) * 3) := hml
  have s2 : Hid (∀ u ∈ mv, u.oneCell' = true) := by
    intro u hu
    rw [hmv] at hu
    refine h1 u ?_
    rw [show n * 3 = (i + 1) * 3 + (n - (i + 1)) * 3 by omega, List.take_add]
    exact List.mem_append_right _ hu
  have s3 : Hid (∀ j, j < mv.length → (w.drew.cell? ⟨g, 0 + i * 3 + j, none⟩).isSome = true ∧ w.drew.frozen? ⟨g, 0 + i * 3 + j, none⟩ = false) := by
    intro j hj
    rw [hml] at hj
    refine ⟨?_, frozen_of_row _ _ _ _ _ hg⟩
    rw [hcell (0 + i * 3 + j) cur[0 + i * 3 + j] (Array.getElem?_eq_getElem (by omega))]
    rfl
  have hic : i ≤ c := by omega
  have hwr : IntKind.i64.wrap ((i : Int) + 1) = (i : Int) + 1 := by rw [IntKind.wrap_i64]; omega
  have hp0 : (0 : Int) ≤ (i : Int) + 1 := by omega
  have hp1 : (i : Int) + 1 ≤ (n : Int) := by omega
  have hp2 : ((i : Int) + 1).toNat = i + 1 := by omega
  have hne : ((i : Int) == (i : Int) + 1) = false := beq_eq_false_iff_ne.mpr (by omega)
  have HG := Aside0.mk hg
  have HML := Aside0.mk hml
  have HMV := Aside0.mk hmv
  clear hcell hg hml hmv hp2
  go_enter Try.func40, Try.ntmps40
  go_wp2_with fail
  go_region_law (refine step_append_room rfl (.tmp 22) (.tmp 25) 51 rfl 54 i0 3 Try.underlying51 hi0 hz1 g 0 i c (by simp [Act.eval, Act.put]) A (n - (i + 1)) (c - (i + 1)) mv (by simp [Act.eval, Act.put]) s1.out hnews.out s2.out (by omega) s3.out ?_)
  obtain ⟨W2, HW2⟩ : ∃ W2, w.drew.setCells g (i * 3) mv = W2 := ⟨_, rfl⟩
  rw [HW2, show i + (n - (i + 1)) = n - 1 by omega]
  obtain ⟨cur2, hg2, hs2, hl2⟩ := setCells_row mv (i * 3) w.drew cur HG.out (by rw [HML.out]; omega)
  rw [HW2] at hg2
  have HX := Aside0.mk HW2
  have HG2 := Aside0.mk hg2
  have hc2 : ∀ j, j < 3 → (W2.cell? ⟨g, (n - 1) * 3 + j, none⟩).isSome = true := fun j hj => by
    rw [cell_of_row _ _ _ _ _ _ hg2, Array.getElem?_eq_getElem (by omega)]
    rfl
  have hf2 : ∀ j, j < 3 → W2.frozen? ⟨g, (n - 1) * 3 + j, none⟩ = false := fun j hj => frozen_of_row _ _ _ _ _ hg2
  have HC2 := Aside0.mk hc2
  have HF2 := Aside0.mk hf2
  have hn1 : c - (n - 1) ≠ 0 := by omega
  have hn2 : ¬ c = n - 1 := by omega
  have hn3 : n - (n - 1) = 1 := by omega
  have hn4 : ((n - 1 : Nat) : Int) = (n : Int) - 1 := by omega
  clear HW2 hg2 hc2 hf2 hs2 hl2 hA
  go_wp2_with ((with_reducible refine gate_clear (t := 51) (x := .tmp 31) rfl ?_); refine wpList_clear_one rfl 51 54 (.tmp 31) rfl Try.underlying51 _ zeroWire (by decide) g ((n - 1) * 3) (c - (n - 1)) ?hx HC2.out HF2.out ?_; (case hx => simp [Act.eval, Act.put]))
  go_ret
  exact ⟨rfl, by rw [← HX.out, ← HMV.out]⟩
theorem delWire (g i : Nat) (xs : List S54) (cur : Array Value) (w : World) (B : Nat) (ok : Nat → Prop) (hok : ok g) (hi : i < xs.length) (hBg : B ≤ g) (hm : xs.length ≤ maxLen) (hg : w.heap[g]? = some (.cells cur 54 (0, 0))) (hcs : xs.length * 3 ≤ cur.size)
    (hr : Reps (fun x c => Kd.FK k54 w (fun k_ => ok k_ ∧ k_ ≠ g) x c) 3 xs (cur.toList.take (xs.length * 3))) :
    Calls Try.prog 40 #[.slice (some ⟨g, 0, none⟩) xs.length xs.length, .int .i64 i, .int .i64 ((i : Int) + 1)] w fun e w' => e = .returned (.slice (some ⟨g, 0, none⟩) (xs.eraseIdx i).length xs.length) ∧ Kd.F k54 w' ok (some ⟨g, 0, none⟩) (xs.eraseIdx i).length (xs.eraseIdx i) ∧ (∀ k_, k_ ≠ g → w'.heap[k_]? = w.heap[k_]?) ∧ Below B w w' ∧ w'.heap.size = w.heap.size := by
  have hM : maxLen = 9223372036854775807 := rfl
  have h1 : ∀ u ∈ cur.toList.take (xs.length * 3), u.oneCell' = true := Kd.reps_one hr (by decide) (fun p c hp => k54.K_one (Kd.FK_now hp))
  refine (delWire_walk g xs.length xs.length i cur w hi (Nat.le_refl _) (hM ▸ hm) hg hcs h1).mono ?_
  rintro e w' ⟨rfl, hw'⟩
  have hel : (xs.eraseIdx i).length = xs.length - 1 := by rw [List.length_eraseIdx, if_pos hi]
  obtain ⟨mv, hmv⟩ : ∃ mv, mv = (cur.toList.drop ((i + 1) * 3)).take ((xs.length - (i + 1)) * 3) := ⟨_, rfl⟩
  have hml : mv.length = (xs.length - (i + 1)) * 3 := by
    have hc : cur.toList.length = cur.size := Array.length_toList
    rw [hmv, List.length_take, List.length_drop]
    omega
  rw [← hmv] at hw'
  obtain ⟨c2, hg2, hs2, hl2⟩ := setCells_row mv (i * 3) w.drew cur hg (by rw [hml]; omega)
  obtain ⟨c3, hg3, hs3, hl3⟩ := setCells_row [.int .i64 0, .bool false, .slice none 0 0] ((xs.length - 1) * 3) _ c2 hg2 (by simp only [List.length_cons, List.length_nil]; omega)
  rw [← hw'] at hg3
  have hfar : ∀ k_, k_ ≠ g → w'.heap[k_]? = w.heap[k_]? := fun k_ hk => by rw [hw', setCells_far _ _ _ hk, setCells_far _ _ _ hk]; rfl
  have hbel : Below B w w' := by rw [hw']; exact below_setCells_ hBg _ _ (below_setCells_ hBg _ _ (below_drew (Below.refl _ _)))
  refine ⟨by rw [hel], ?_, hfar, hbel, by rw [hw', (setCells_same _ _ _ _).2.2.2, (setCells_same _ _ _ _).2.2.2]; rfl⟩
  have ht : c3.toList.take ((xs.eraseIdx i).length * 3) = (cur.toList.take (xs.length * 3)).take (i * 3) ++ (cur.toList.take (xs.length * 3)).drop ((i + 1) * 3) := by
    have hc : cur.toList.length = cur.size := Array.length_toList
    have e1 : (cur.toList.take (i * 3)).length = i * 3 := by rw [List.length_take]; omega
    have e2 : (cur.toList.take (i * 3) ++ mv).length = (xs.length - 1) * 3 := by rw [List.length_append, e1, hml]; omega
    have e3 : (c2.toList.take ((xs.length - 1) * 3)) = cur.toList.take (i * 3) ++ mv := by rw [hl2, List.take_append_of_le_length (Nat.le_of_eq e2.symm), List.take_of_length_le (Nat.le_of_eq e2)]
    rw [hel, hl3, e3, List.append_assoc, List.take_append_of_le_length (Nat.le_of_eq e2.symm), List.take_of_length_le (Nat.le_of_eq e2), List.take_take, Nat.min_eq_left (by omega), List.drop_take, hmv, show xs.length * 3 - (i + 1) * 3 = (xs.length - (i + 1)) * 3 by omega]
  refine F_row (d := k54) hok hg3 ht ?_ (by omega)
  rw [List.eraseIdx_eq_take_drop_succ]
  exact (Kd.reps_append (Kd.reps_take hr (Nat.le_of_lt hi)) (Kd.reps_drop hr)).imp_ (fun x c hx => Kd.FK_mono (Kd.FK_step hx (fun k_ hk _ => hfar k_ hk.2)) (fun _ hk => hk.1))
def fateSpec (l : List S54) (a f : Int) : List S54 × Int × Bool × List Int × Bool :=
  if 0 ≤ a ∧ a < l.length ∧ 0 ≤ f ∧ f < 3 then
    (if f = 0 then (l.eraseIdx a.toNat, (rd_T54 l a).f0, (rd_T54 l a).f1, (rd_T54 l a).f2, true)
     else if f = 1 then (l.eraseIdx a.toNat, 0, false, [], false)
     else (l, (rd_T54 l a).f0, (rd_T54 l a).f1, (rd_T54 l a).f2, true))
  else (l, 0, false, [], false)
def FatePost (w : World) (r : List S54 × Int × Bool × List Int × Bool) (e : Ending) (w' : World) : Prop :=
  ∃ v0_ v3_ : Value, e = .returned (.tuple #[v0_, .agg #[.int .i64 r.2.1, .bool r.2.2.1, v3_], .bool r.2.2.2.2]) ∧ Kd.V k54 54 w' w.heap.size (fun k_ => (w.heap.size ≤ k_)) v0_ r.1 ∧ Kd.V (Kd.int .u8) 5 w' w.heap.size (fun k_ => (w.heap.size ≤ k_)) v3_ r.2.2.2.1 ∧ Below w.heap.size w w'
set_option maxHeartbeats 8000000 in
set_option maxRecDepth 100000 in
theorem wires_Fate.out (k : Nat) (A0 : Option Addr) (c0 : Nat) (l0 : List S54) (a1 a2 : Int) (w : World)
    (hr0 : Kd.C k54 w A0 l0.length l0) (hc0 : l0.length ≤ c0) (hall : wires_all.f k l0 = some l0) (ho : a1 < 0 ∨ (0 ≤ a1 ∧ (l0.length ≤ a1 ∨ (a1 < l0.length ∧ (a2 < 0 ∨ (0 ≤ a2 ∧ 3 ≤ a2)))))) :
    Calls Try.prog 28 #[.slice A0 l0.length c0, .int .i64 a1, .int .i64 a2] w (FatePost w (l0, 0, false, [], false)) := by
  have HR := Aside0.mk hr0
  have HC := Aside0.mk hc0
  have HALL := Aside0.mk hall
  clear hr0 hc0 hall
  rcases ho with h | ⟨h, h2 | ⟨h2, h3 | ⟨h3, h4⟩⟩⟩ <;>
  · go_enter Try.func28, Try.ntmps28
    go_wp2_with (go_at_call 38; (refine (wires_all.calls k A0 c0 l0 l0 _ (Kd.C_alloc HR.out _) HC.out HALL.out).mono ?_); rintro e w1 ⟨v1, rfl, hf1, hb1⟩; have hcz := (hb1.block w.heap.size (by simp)).trans (heap_alloc_new w _); have HF1 := Aside0.mk hf1; have HB1 := Aside0.mk hb1; have HCZ := Aside0.mk hcz; have k0 : w1.cell? ⟨w.heap.size, 0, none⟩ = some (.int .i64 0) := (cell_of_row _ _ _ _ _ _ hcz).trans rfl; have k1 : w1.cell? ⟨w.heap.size, 1, none⟩ = some (.bool false) := (cell_of_row _ _ _ _ _ _ hcz).trans rfl; have k2 : w1.cell? ⟨w.heap.size, 2, none⟩ = some (.slice none 0 0) := (cell_of_row _ _ _ _ _ _ hcz).trans rfl; have q0 : w1.frozen? ⟨w.heap.size, 0, none⟩ = false := frozen_of_row _ _ _ _ _ hcz; have q1 : w1.frozen? ⟨w.heap.size, 1, none⟩ = false := frozen_of_row _ _ _ _ _ hcz; have q2 : w1.frozen? ⟨w.heap.size, 2, none⟩ = false := frozen_of_row _ _ _ _ _ hcz; clear hf1 hb1 hcz)
    refine bodyPost_ret (by simp [results, Try.results28, go_sem, k0, k1, k2]; try rfl) rfl ?_
    have hne : ∀ k_, (w.alloc (Obj.cells #[Value.int IntKind.i64 0, Value.bool false, Value.slice none 0 0] 54)).heap.size ≤ k_ → k_ ≠ w.heap.size := fun k_ hk => by rw [alloc_size_] at hk; omega
    have hB0 := below_then (below_alloc (Below.refl w.heap.size w) (Obj.cells #[Value.int IntKind.i64 0, Value.bool false, Value.slice none 0 0] 54)) (by rw [alloc_size_]; omega) HB1.out
    exact ⟨v1, _, rfl, Kd.V_mono (Kd.V_map (base' := w.heap.size) (FullRow_V (base' := w.heap.size) HF1.out) (fun A hf => Kd.F_far (Kd.F_far (Kd.F_far hf hne _) hne _) hne _)) (fun k_ hk => by rw [alloc_size_] at hk; omega), V_none, below_setCell_ (Nat.le_refl _) _ _ (below_setCell_ (Nat.le_refl _) _ _ (below_setCell_ (Nat.le_refl _) _ _ hB0))⟩
set_option maxHeartbeats 8000000 in
set_option maxRecDepth 100000 in
theorem wires_Fate.inn (k : Nat) (A0 : Option Addr) (c0 : Nat) (l0 : List S54) (i : Nat) (a2 : Int) (w : World)
    (hr0 : Kd.C k54 w A0 l0.length l0) (hc0 : l0.length ≤ c0) (hall : wires_all.f k l0 = some l0) (hown : wires_own.f (rd_T54 l0 i).f0 (rd_T54 l0 i).f1 (rd_T54 l0 i).f2 = some ((rd_T54 l0 i).f0, (rd_T54 l0 i).f1, (rd_T54 l0 i).f2)) (hi : i < l0.length) (ho : a2 = 0 ∨ a2 = 1 ∨ a2 = 2) :
    Calls Try.prog 28 #[.slice A0 l0.length c0, .int .i64 (i : Int), .int .i64 a2] w (FatePost w (fateSpec l0 i a2)) := by
  have hM : maxLen = 9223372036854775807 := rfl
  have hlen : l0.length ≤ 9223372036854775807 := hr0.2.1
  obtain ⟨ad, A2, c2, rfl, e0, e1, e2, hl2, hr2⟩ := at_T54 hr0 (i : Int) (by omega) (by omega)
  obtain ⟨Z, hZ⟩ : ∃ Z : Obj, Z = Obj.cells #[Value.int IntKind.i64 0, Value.bool false, Value.slice none 0 0] 54 := ⟨_, rfl⟩
  rw [Int.toNat_natCast] at e0 e1 e2
  have HR := Aside0.mk hr0
  have HC := Aside0.mk hc0
  have HALL := Aside0.mk hall
  have HOWN := Aside0.mk hown
  have HL2 := Aside0.mk hl2
  have HR2 := Aside0.mk hr2
  have E0 := Aside0.mk e0
  have E1 := Aside0.mk e1
  have E2 := Aside0.mk e2
  have HI := Aside0.mk hi
  have HLEN := Aside0.mk hlen
  have hi0 : (0 : Int) ≤ (i : Int) := by omega
  have hi1 : (i : Int) < (l0.length : Int) := by omega
  have hwr : IntKind.i64.wrap ((i : Int) + 1) = (i : Int) + 1 := by rw [IntKind.wrap_i64]; omega
  clear hr0 hc0 hall hown hl2 hr2 e0 e1 e2 hi hlen hZ
  rcases ho with rfl | rfl | rfl
  · have hsp : fateSpec l0 (i : Int) 0 = (l0.eraseIdx i, (rd_T54 l0 i).f0, (rd_T54 l0 i).f1, (rd_T54 l0 i).f2, true) := by unfold fateSpec; rw [if_pos ⟨hi0, hi1, by decide, by decide⟩]; rfl
    have HSP := Aside0.mk hsp
    clear hsp
    go_enter Try.func28, Try.ntmps28
    go_wp2_with (first
      | (go_at_call 38; (refine (wires_all.calls k (some ad) c0 l0 l0 _ (Kd.C_alloc HR.out _) HC.out HALL.out).mono ?_); rintro e w1 ⟨v1, rfl, hf1, hb1⟩; obtain ⟨g, cur, rfl, hbg, hgs, hg, hcs, hrp, hmx⟩ := FullRow_open hf1 (Nat.lt_of_le_of_lt (Nat.zero_le _) HI.out); rw [alloc_size_] at hbg hrp; have hcz := (hb1.block w.heap.size (by simp)).trans (heap_alloc_new w _); have HF1 := Aside0.mk hf1; have HCZ := Aside0.mk hcz; have HBG := Aside0.mk hbg; have HGS := Aside0.mk hgs; have HG := Aside0.mk hg; have HCS := Aside0.mk hcs; have HRP := Aside0.mk hrp; have HMX := Aside0.mk hmx; have hws := Nat.lt_of_lt_of_le (Nat.lt_succ_self _) (Nat.le_trans hbg (Nat.le_of_lt hgs)); have HWS := Aside0.mk hws; have HB0 := Aside0.mk (below_then (below_alloc (Below.refl w.heap.size w) _) (by rw [alloc_size_]; omega) hb1); clear hf1 hb1 hcz hbg hgs hg hcs hrp hmx hws; have x0 := ((below_alloc HB0.out (Obj.cells #[Value.int IntKind.i64 0, Value.bool false, Value.slice none 0 0] 54)).cell (World.block_lt_of_cell? w _ E0.out)).trans E0.out; have x1 := ((below_alloc HB0.out (Obj.cells #[Value.int IntKind.i64 0, Value.bool false, Value.slice none 0 0] 54)).cell (World.block_lt_of_cell? w _ E1.out)).trans E1.out; have x2 := ((below_alloc HB0.out (Obj.cells #[Value.int IntKind.i64 0, Value.bool false, Value.slice none 0 0] 54)).cell (World.block_lt_of_cell? w _ E2.out)).trans E2.out)
      | (go_at_call 39; (refine (wires_own.at2 (rd_T54 l0 i) A2 c2 _ (Kd.C_below HR2.out (below_alloc HB0.out _)) HL2.out HOWN.out).mono ?_); rintro e w3 ⟨A3, c3, rfl, hl3, hf3, hb3⟩; rw [alloc_size_] at hf3; have h10 := (hb3.block w1.heap.size (by rw [alloc_size_]; exact Nat.lt_succ_self _)).trans (heap_alloc_new w1 _); have h7 := ((hb3.block w.heap.size (by rw [alloc_size_]; exact Nat.lt_succ_of_lt HWS.out)).trans ((below_alloc (Below.refl w1.heap.size w1) _).block w.heap.size HWS.out)).trans HCZ.out; obtain ⟨⟨a0, a1, a2⟩, b0, b1, b2⟩ := cells3 h10; obtain ⟨⟨d0, d1, d2⟩, p0, p1, p2⟩ := cells3 h7; have HL3 := Aside0.mk hl3; have HF3 := Aside0.mk hf3; have H10 := Aside0.mk h10; have H7 := Aside0.mk h7; have HG3 := Aside0.mk (((hb3.block g (by rw [alloc_size_]; exact Nat.lt_succ_of_lt HGS.out)).trans ((below_alloc (Below.refl w1.heap.size w1) _).block g HGS.out)).trans HG.out); have HBK := Aside0.mk hb3; have HB3 := Aside0.mk (below_then (below_alloc HB0.out _) (by rw [alloc_size_]; exact Nat.le_succ_of_le (Nat.le_of_lt HWS.out)) hb3); clear hl3 hf3 hb3 h10 h7)
      | (go_at_call 40; (refine (delWire g i l0 cur _ (w.heap.size + 1) (fun k_ => w.heap.size + 1 ≤ k_ ∧ k_ < w1.heap.size) ⟨HBG.out, HGS.out⟩ HI.out HBG.out HMX.out ((far3 (Nat.ne_of_lt HGS.out) _ _ _).trans HG3.out) HCS.out (HRP.out.imp_ (fun x c hx => Kd.FK_step (Kd.FK_mono (Kd.FK_below (FK_alloc (Kd.FK_bound hx) _) HBK.out) (fun k_ hk => (⟨⟨hk.1.1, hk.2⟩, hk.1.2⟩ : (w.heap.size + 1 ≤ k_ ∧ k_ < w1.heap.size) ∧ k_ ≠ g))) (fun k_ hk _ => far3 (Nat.ne_of_lt hk.1.2) _ _ _)))).mono ?_); rintro e w5 ⟨rfl, hf5, hfar5, hb5, hs5⟩; have h10 := (hfar5 w1.heap.size (Nat.ne_of_gt HGS.out)).trans (set3 H10.out _ _ _); have h7 := (hfar5 w.heap.size (Nat.ne_of_lt HBG.out)).trans ((far3 (Nat.ne_of_lt HWS.out) _ _ _).trans H7.out); have HF35 := Aside0.mk (Kd.F_step HF3.out (fun k_ hk _ => (hfar5 k_ (Nat.ne_of_gt (Nat.lt_trans HGS.out hk))).trans (far3 (Nat.ne_of_gt hk) _ _ _))); obtain ⟨⟨a0, a1, a2⟩, b0, b1, b2⟩ := cells3 h10; obtain ⟨⟨d0, d1, d2⟩, p0, p1, p2⟩ := cells3 h7; have HF5 := Aside0.mk hf5; have HB5 := Aside0.mk (Below.trans (below3 (Nat.le_of_lt HWS.out) _ _ _ HB3.out) (hb5.mono (Nat.le_succ _))); clear hf5 hb5 hfar5 h10 h7 hs5))
    go_region
    all_goals go_wp2_with fail
    all_goals (refine bodyPost_ret (by simp [results, Try.results28, go_sem, a0, a1, a2, d0, d1, d2]; try rfl) rfl ?_)
    all_goals (rw [HSP.out]; exact ⟨_, _, rfl, Kd.V_mk (Nat.le_trans (List.length_eraseIdx_le l0 i) (Nat.le_refl _)) (Kd.F_mono (Kd.F_step (Kd.F_drew HF5.out) (fun k_ hk _ => far3 (Nat.ne_of_gt hk.1) _ _ _)) (fun k_ hk => Nat.le_of_lt hk.1)), Kd.V_mk HL3.out (Kd.F_mono (Kd.F_step (Kd.F_drew HF35.out) (fun k_ hk _ => far3 (Nat.ne_of_gt (Nat.lt_trans HWS.out hk)) _ _ _)) (fun k_ hk => Nat.le_of_lt (Nat.lt_trans HWS.out hk))), below3 (Nat.le_refl _) _ _ _ (below_drew HB5.out)⟩)
  · have hsp : fateSpec l0 (i : Int) 1 = (l0.eraseIdx i, 0, false, [], false) := by unfold fateSpec; rw [if_pos ⟨hi0, hi1, by decide, by decide⟩]; rfl
    have HSP := Aside0.mk hsp
    clear hsp
    go_enter Try.func28, Try.ntmps28
    go_wp2_with (first
      | (go_at_call 38; (refine (wires_all.calls k (some ad) c0 l0 l0 _ (Kd.C_alloc HR.out _) HC.out HALL.out).mono ?_); rintro e w1 ⟨v1, rfl, hf1, hb1⟩; obtain ⟨g, cur, rfl, hbg, hgs, hg, hcs, hrp, hmx⟩ := FullRow_open hf1 (Nat.lt_of_le_of_lt (Nat.zero_le _) HI.out); rw [alloc_size_] at hbg hrp; have hcz := (hb1.block w.heap.size (by simp)).trans (heap_alloc_new w _); have HF1 := Aside0.mk hf1; have HCZ := Aside0.mk hcz; have HBG := Aside0.mk hbg; have HGS := Aside0.mk hgs; have HG := Aside0.mk hg; have HCS := Aside0.mk hcs; have HRP := Aside0.mk hrp; have HMX := Aside0.mk hmx; have hws := Nat.lt_of_lt_of_le (Nat.lt_succ_self _) (Nat.le_trans hbg (Nat.le_of_lt hgs)); have HWS := Aside0.mk hws; have HB0 := Aside0.mk (below_then (below_alloc (Below.refl w.heap.size w) _) (by rw [alloc_size_]; omega) hb1); clear hf1 hb1 hcz hbg hgs hg hcs hrp hmx hws)
      | (go_at_call 40; (refine (delWire g i l0 cur _ (w.heap.size + 1) (fun k_ => w.heap.size + 1 ≤ k_ ∧ k_ < w1.heap.size) ⟨HBG.out, HGS.out⟩ HI.out HBG.out HMX.out (((below_alloc (Below.refl w1.heap.size w1) _).block g HGS.out).trans HG.out) HCS.out (HRP.out.imp_ (fun x c hx => Kd.FK_mono (FK_alloc (Kd.FK_bound hx) _) (fun k_ hk => ⟨⟨hk.1.1, hk.2⟩, hk.1.2⟩)))).mono ?_); rintro e w5 ⟨rfl, hf5, hfar5, hb5, hs5⟩; have h10 := (hfar5 w1.heap.size (Nat.ne_of_gt HGS.out)).trans (heap_alloc_new w1 _); have h7 := (hfar5 w.heap.size (Nat.ne_of_lt HBG.out)).trans (((below_alloc (Below.refl w1.heap.size w1) _).block w.heap.size HWS.out).trans HCZ.out); obtain ⟨⟨a0, a1, a2⟩, b0, b1, b2⟩ := cells3 h10; obtain ⟨⟨d0, d1, d2⟩, p0, p1, p2⟩ := cells3 h7; have HF5 := Aside0.mk hf5; have HB5 := Aside0.mk (Below.trans (below_alloc HB0.out _) (hb5.mono (Nat.le_succ _))); clear hf5 hb5 hfar5 h10 h7 hs5))
    go_region
    all_goals go_wp2_with fail
    all_goals (refine bodyPost_ret (by simp [results, Try.results28, go_sem, a0, a1, a2, d0, d1, d2]; try rfl) rfl ?_)
    all_goals (rw [HSP.out]; exact ⟨_, _, rfl, Kd.V_mk (Nat.le_trans (List.length_eraseIdx_le l0 i) (Nat.le_refl _)) (Kd.F_mono (Kd.F_step (Kd.F_drew HF5.out) (fun k_ hk _ => far3 (Nat.ne_of_gt hk.1) _ _ _)) (fun k_ hk => Nat.le_of_lt hk.1)), V_none, below3 (Nat.le_refl _) _ _ _ (below_drew HB5.out)⟩)
  · have hsp : fateSpec l0 (i : Int) 2 = (l0, (rd_T54 l0 i).f0, (rd_T54 l0 i).f1, (rd_T54 l0 i).f2, true) := by unfold fateSpec; rw [if_pos ⟨hi0, hi1, by decide, by decide⟩]; rfl
    have HSP := Aside0.mk hsp
    clear hsp
    go_enter Try.func28, Try.ntmps28
    go_wp2_with (first
      | (go_at_call 38; (refine (wires_all.calls k (some ad) c0 l0 l0 _ (Kd.C_alloc HR.out _) HC.out HALL.out).mono ?_); rintro e w1 ⟨v1, rfl, hf1, hb1⟩; obtain ⟨g, cur, rfl, hbg, hgs, hg, hcs, hrp, hmx⟩ := FullRow_open hf1 (Nat.lt_of_le_of_lt (Nat.zero_le _) HI.out); rw [alloc_size_] at hbg hrp; have hcz := (hb1.block w.heap.size (by simp)).trans (heap_alloc_new w _); have HF1 := Aside0.mk hf1; have HCZ := Aside0.mk hcz; have HBG := Aside0.mk hbg; have HGS := Aside0.mk hgs; have HG := Aside0.mk hg; have HCS := Aside0.mk hcs; have HRP := Aside0.mk hrp; have HMX := Aside0.mk hmx; have hws := Nat.lt_of_lt_of_le (Nat.lt_succ_self _) (Nat.le_trans hbg (Nat.le_of_lt hgs)); have HWS := Aside0.mk hws; have HB0 := Aside0.mk (below_then (below_alloc (Below.refl w.heap.size w) _) (by rw [alloc_size_]; omega) hb1); clear hf1 hb1 hcz hbg hgs hg hcs hrp hmx hws; have x0 := ((below_alloc HB0.out (Obj.cells #[Value.int IntKind.i64 0, Value.bool false, Value.slice none 0 0] 54)).cell (World.block_lt_of_cell? w _ E0.out)).trans E0.out; have x1 := ((below_alloc HB0.out (Obj.cells #[Value.int IntKind.i64 0, Value.bool false, Value.slice none 0 0] 54)).cell (World.block_lt_of_cell? w _ E1.out)).trans E1.out; have x2 := ((below_alloc HB0.out (Obj.cells #[Value.int IntKind.i64 0, Value.bool false, Value.slice none 0 0] 54)).cell (World.block_lt_of_cell? w _ E2.out)).trans E2.out)
      | (go_at_call 39; (refine (wires_own.at2 (rd_T54 l0 i) A2 c2 _ (Kd.C_below HR2.out (below_alloc HB0.out _)) HL2.out HOWN.out).mono ?_); rintro e w3 ⟨A3, c3, rfl, hl3, hf3, hb3⟩; rw [alloc_size_] at hf3; have h10 := (hb3.block w1.heap.size (by rw [alloc_size_]; exact Nat.lt_succ_self _)).trans (heap_alloc_new w1 _); have h7 := ((hb3.block w.heap.size (by rw [alloc_size_]; exact Nat.lt_succ_of_lt HWS.out)).trans ((below_alloc (Below.refl w1.heap.size w1) _).block w.heap.size HWS.out)).trans HCZ.out; obtain ⟨⟨a0, a1, a2⟩, b0, b1, b2⟩ := cells3 h10; obtain ⟨⟨d0, d1, d2⟩, p0, p1, p2⟩ := cells3 h7; have HL3 := Aside0.mk hl3; have HF3 := Aside0.mk hf3; have H10 := Aside0.mk h10; have H7 := Aside0.mk h7; have HG3 := Aside0.mk (((hb3.block g (by rw [alloc_size_]; exact Nat.lt_succ_of_lt HGS.out)).trans ((below_alloc (Below.refl w1.heap.size w1) _).block g HGS.out)).trans HG.out); have HBK := Aside0.mk hb3; have HB3 := Aside0.mk (below_then (below_alloc HB0.out _) (by rw [alloc_size_]; exact Nat.le_succ_of_le (Nat.le_of_lt HWS.out)) hb3); clear hl3 hf3 hb3 h10 h7))
    obtain ⟨w4, hw4⟩ : ∃ w4, (((w3.setCell ⟨w1.heap.size, 0, none⟩ (.int .i64 (rd_T54 l0 (i : Int)).f0)).setCell ⟨w1.heap.size, 1, none⟩ (.bool (rd_T54 l0 (i : Int)).f1)).setCell ⟨w1.heap.size, 2, none⟩ (.slice A3 (rd_T54 l0 (i : Int)).f2.length c3)) = w4 := ⟨_, rfl⟩
    rw [hw4]
    have h10 := set3 H10.out (.int .i64 (rd_T54 l0 (i : Int)).f0) (.bool (rd_T54 l0 (i : Int)).f1) (.slice A3 (rd_T54 l0 (i : Int)).f2.length c3)
    have hfar : ∀ k_, k_ ≠ w1.heap.size → w4.heap[k_]? = w3.heap[k_]? := fun k_ hk => by rw [← hw4]; exact far3 hk _ _ _
    have hB4 : Below w.heap.size w w4 := by rw [← hw4]; exact below3 (Nat.le_of_lt HWS.out) _ _ _ HB3.out
    rw [hw4] at h10
    have h7 := (hfar w.heap.size (Nat.ne_of_lt HWS.out)).trans H7.out
    clear hw4 a0 a1 a2 b0 b1 b2 d0 d1 d2 p0 p1 p2
    obtain ⟨⟨a0, a1, a2⟩, b0, b1, b2⟩ := cells3 h10
    obtain ⟨⟨d0, d1, d2⟩, p0, p1, p2⟩ := cells3 h7
    have HFAR := Aside0.mk hfar
    have HB4 := Aside0.mk hB4
    clear h10 h7 hfar hB4
    go_region
    all_goals go_wp2_with fail
    all_goals (refine bodyPost_ret (by simp [results, Try.results28, go_sem, a0, a1, a2, d0, d1, d2]; try rfl) rfl ?_)
    all_goals (rw [HSP.out]; exact ⟨_, _, rfl, Kd.V_mk (Nat.le_refl _) (Kd.F_mono (Kd.F_step (Kd.F_drew (Kd.F_step (Kd.F_mono (Kd.F_below (Kd.F_alloc (Kd.F_bound (Kd.V_F (FullRow_V (base' := 0) HF1.out))) _) HBK.out) (fun k_ hk => (⟨by have := hk.1; rw [alloc_size_] at this; exact this, hk.2⟩ : w.heap.size + 1 ≤ k_ ∧ k_ < w1.heap.size))) (fun k_ hk _ => HFAR.out k_ (Nat.ne_of_lt hk.2)))) (fun k_ hk _ => far3 (Nat.ne_of_gt hk.1) _ _ _)) (fun k_ hk => Nat.le_of_lt hk.1)), Kd.V_mk HL3.out (Kd.F_mono (Kd.F_step (Kd.F_drew (Kd.F_step HF3.out (fun k_ hk _ => HFAR.out k_ (Nat.ne_of_gt hk)))) (fun k_ hk _ => far3 (Nat.ne_of_gt (Nat.lt_trans HWS.out hk)) _ _ _)) (fun k_ hk => Nat.le_of_lt (Nat.lt_trans HWS.out hk))), below3 (Nat.le_refl _) _ _ _ (below_drew HB4.out)⟩)
theorem wires_Fate.main2 (A0 : Option Addr) (c0 : Nat) (l0 : List (S54)) (a1 : Int) (a2 : Int) (w : World) (hr0 : Kd.C k54 w A0 l0.length l0) (hc0 : l0.length ≤ c0) (hs : wiresSmall l0) :
    Calls Try.prog 28 #[.slice A0 l0.length c0, .int .i64 a1, .int .i64 a2] w (FatePost w (fateSpec l0 a1 a2)) := by
  obtain ⟨k, hk⟩ := all_some l0 hs
  by_cases hc : 0 ≤ a1 ∧ a1 < l0.length ∧ 0 ≤ a2 ∧ a2 < 3
  · obtain ⟨i, rfl⟩ := Int.eq_ofNat_of_zero_le hc.1
    have hi : i < l0.length := by omega
    exact wires_Fate.inn k A0 c0 l0 i a2 w hr0 hc0 hk (own_some _ (by rw [rd_wire hi]; exact hs.2 _ (List.getElem_mem hi))) hi (by omega)
  · have : fateSpec l0 a1 a2 = (l0, 0, false, [], false) := if_neg hc
    rw [this]
    exact wires_Fate.out k A0 c0 l0 a1 a2 w hr0 hc0 hk (by omega)

def wires_Fate.f (l0 : List (S54)) (a1 : Int) (a2 : Int) : Option (List (S54) × Int × Bool × List Int × Bool) := if wiresSmall l0 then some (fateSpec l0 a1 a2) else none
set_option maxHeartbeats 8000000 in
set_option maxRecDepth 100000 in
theorem wires_Fate.calls (A0 : Option Addr) (c0 : Nat) (l0 : List (S54)) (a1 : Int) (a2 : Int) (r1 : List (S54)) (r2 : Int) (r3 : Bool) (r4 : List Int) (r5 : Bool) (w : World) (hr0 : Kd.C k54 w A0 l0.length l0) (hc0 : l0.length ≤ c0) (h : wires_Fate.f l0 a1 a2 = some (r1, r2, r3, r4, r5)) :
    Calls Try.prog 28 #[.slice A0 l0.length c0, .int .i64 a1, .int .i64 a2] w fun e w' => ∃ v0_ v3_ : Value, e = .returned (.tuple #[v0_, .agg #[.int .i64 r2, .bool r3, v3_], .bool r5]) ∧ Kd.V k54 54 w' w.heap.size (fun k_ => (w.heap.size ≤ k_)) v0_ r1 ∧ Kd.V (Kd.int .u8) 5 w' w.heap.size (fun k_ => (w.heap.size ≤ k_)) v3_ r4 ∧ Below w.heap.size w w' := by
  unfold wires_Fate.f at h
  split at h
  · have hm := wires_Fate.main2 A0 c0 l0 a1 a2 w hr0 hc0 ‹_›
    rw [Option.some.inj h] at hm
    exact hm
  · cases h

end Go.Proofs.Ytifgncaihpoijaa.Print
