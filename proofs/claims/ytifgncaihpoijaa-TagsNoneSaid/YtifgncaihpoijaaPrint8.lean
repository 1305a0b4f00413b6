/- A text that a program of this session printed out of the translation: checked by Lean alone. -/
import Derived.Test.YtifgncaihpoijaaPrint0
import Derived.Test.YtifgncaihpoijaaPrint7
import Derived.Test.YtifgncaihpoijaaPrintH
namespace Go.Proofs.Ytifgncaihpoijaa.Print
open Go.RowKit Go.Proofs.YtifgncaihpoijaaW.PrintWords Go.Proofs.YtifgncaihpoijaaW.PrintLast Go.Proofs.YtifgncaihpoijaaW.PrintMore
attribute [local go_sem] max2_int min2_int max_two min_two max_three min_three max_four min_four   -- for this text's walks alone
set_option linter.unusedVariables false
set_option linter.unusedSimpArgs false

/-! ### tags_Next: function 19 -/
/-- the array of 4096 bools: which tags are in a list. -/
def takenL (l : List Int) : List Bool := (List.range 4096).map fun (j : Nat) => decide ((j : Int) ∈ l)
def takenA (l : List Int) : Array Value := ((takenL l).map Value.bool).toArray
theorem takenA_size (l : List Int) : (takenA l).size = 4096 := by simp [takenA, takenL]
theorem takenA_get (l : List Int) (j : Nat) (h : j < 4096) : (takenA l)[j]? = some (.bool (decide ((j : Int) ∈ l))) := by
  simp [takenA, takenL, h]
theorem takenA_nil : takenA [] = Array.replicate 4096 (.bool false) := by
  apply Array.ext_getElem?
  intro i
  by_cases h : i < 4096
  · rw [takenA_get _ _ h]; simp [h]
  · rw [Array.getElem?_eq_none (by rw [takenA_size]; omega), Array.getElem?_eq_none (by simp; omega)]
theorem takenA_one (l : List Int) : (takenA l).all (·.oneCell') = true := by
  simp [takenA, Value.oneCell']
theorem takenA_snoc (l : List Int) (x : Int) (h0 : 0 ≤ x) (h1 : x ≤ 4095) : (takenA l).setIfInBounds x.toNat (.bool true) = takenA (l ++ [x]) := by
  apply Array.ext_getElem?
  intro i
  by_cases h : i < 4096
  · rw [Array.getElem?_setIfInBounds, takenA_get _ _ h, takenA_get _ _ h]
    by_cases e : x.toNat = i
    · subst e; simp [takenA_size]; omega
    · rw [if_neg e]
      have : ¬ (i : Int) = x := by omega
      simp [this]
  · rw [Array.getElem?_eq_none (by simp [takenA_size]; omega), Array.getElem?_eq_none (by simp [takenA_size]; omega)]
theorem takenA_skip (l : List Int) (x : Int) (h : ¬ (0 ≤ x ∧ x ≤ 4095)) : takenA (l ++ [x]) = takenA l := by
  apply Array.ext_getElem?
  intro i
  by_cases hi : i < 4096
  · rw [takenA_get _ _ hi, takenA_get _ _ hi]
    have : ¬ (i : Int) = x := by omega
    simp [this]
  · rw [Array.getElem?_eq_none (by simp [takenA_size]; omega), Array.getElem?_eq_none (by simp [takenA_size]; omega)]
theorem zeroTags : ∀ w, (zeroValue 70).run Try.prog w = .ok (.agg (takenA [])) w := by
  rw [takenA_nil]
  exact (zero_of_info (n := 4096) (by kernel_rfl : (Try.prog.info? 70).map (fun i => (i.zero, i.size)) = some (some (.agg (Array.replicate 4096 (.bool false))), 4096))).1
theorem sizeTags : (Try.prog.info? 70).map (·.size) = some 4096 := by kernel_rfl
set_option maxHeartbeats 8000000 in
set_option maxRecDepth 100000 in
theorem tags_taken.calls (A0 : Option Addr) (c0 : Nat) (l0 : List Int) (w : World) (hr0 : Kd.C (Kd.int .i64) w A0 l0.length l0) (hc0 : l0.length ≤ c0) :
    Calls Try.prog 34 #[.slice A0 l0.length c0] w fun e w' => e = .returned (.agg (takenA l0)) ∧ Below w.heap.size w w' := by
  have HR := Aside0.mk hr0
  have HC := Aside0.mk hc0
  have hmx : l0.length ≤ 9223372036854775807 := hr0.2.1
  clear hr0 hc0
  go_enter Try.func34, Try.ntmps34
  go_wp2_with (refine wpList_alloc_row rfl 70 rfl (takenA []) zeroTags ?_)
  go_loopw [7] (fun i wr => ∃ k : Nat, k ≤ l0.length ∧ i = .int .i64 k ∧ Aside0 (wr.heap[w.heap.size]? = some (.cells (takenA (l0.take k)) 70 (0, 0))) ∧ Aside0 (Below w.heap.size w wr)) (fun i _ => l0.length - (intOf i).toNat)
  case atStart => exact ⟨0, Nat.zero_le _, rfl, ⟨by rw [List.take_zero]; exact heap_alloc_new _ _⟩, ⟨below_alloc (Below.refl _ _) _⟩⟩
  case round =>
    obtain ⟨k, hk, rfl, HH, HB⟩ := hrel
    by_cases hlt : k < l0.length
    · obtain ⟨ad, e, hx⟩ := Kd.at_int (Kd.C_below HR.out HB.out) (k : Int) (by omega) (by omega)
      subst e
      rw [Int.toNat_natCast] at hx
      have hsn : l0.take (k + 1) = l0.take k ++ [rd l0 k] := by
        rw [List.take_succ_eq_append_getElem hlt]
        simp [rd, hlt]
      have HS := Aside0.mk hsn
      clear hsn
      generalize rd l0 (k : Int) = x at *
      by_cases hin : 0 ≤ x ∧ x ≤ 4095
      · obtain ⟨h0, h1⟩ := hin
        have hc : wr.cell? ⟨w.heap.size, x.toNat, none⟩ = some (.bool (decide (x ∈ l0.take k))) := by
          rw [cell_of_row _ _ _ _ _ _ HH.out, takenA_get _ _ (by omega)]
          simp [show ((x.toNat : Nat) : Int) = x by omega]
        have hf : wr.frozen? ⟨w.heap.size, x.toNat, none⟩ = false := frozen_of_row _ _ _ _ _ HH.out
        go_wp2
        go_roundw
        case rel => exact ⟨k + 1, by omega, by go_num, ⟨by rw [heap_setCell_same _ _ _ _ _ _ HH.out, takenA_snoc _ _ h0 h1, ← HS.out]⟩, ⟨HB.out.setCell (p := ⟨w.heap.size, x.toNat, none⟩) (Nat.le_refl _) _⟩⟩
        case measure => simp [intOf]; omega
      · go_wp2
        all_goals
          go_roundw
          case rel => exact ⟨k + 1, by omega, by go_num, ⟨by rw [HS.out, takenA_skip _ _ hin]; exact HH.out⟩, HB⟩
          case measure => simp [intOf]; omega
    · obtain rfl : k = l0.length := by omega
      rw [List.take_length] at HH
      go_wp2_with (first | refine wpList_load_row rfl 70 _ rfl w.heap.size rfl 70 (takenA l0) (0, 0) _ HH.out Try.underlying70 rfl (by rw [takenA_size]; exact sizeTags) ?_ | refine wpList_store_row rfl 70 _ _ rfl w.heap.size (takenA l0) rfl rfl 70 (takenA l0) HH.out (by rw [takenA_size]; exact sizeTags) rfl (takenA_one _) ?_)
      rw [setRow_self HH.out]
      go_wp2_with fail
      refine bodyPost_ret (results_cell_row rfl _ _ w.heap.size 70 (takenA l0) (0, 0) _ rfl HH.out Try.underlying70 rfl (by rw [takenA_size]; exact sizeTags)) rfl ⟨rfl, HB.out⟩

def candN (fr : Int) (i : Nat) : Int := (fr + i) % 4095 + 1
def frOf (tag : Int) : Int := if tag < 0 ∨ tag > 4095 then 0 else tag
def nextSpec (tag : Int) (used : List Int) : Int := (((List.range 4095).map (candN (frOf tag))).find? (fun n => decide (n ∉ used ++ [tag]))).getD 0
theorem nextSpec_found {tag : Int} {used : List Int} {k : Nat} (hk : k < 4095) (h : ∀ j, j < k → candN (frOf tag) j ∈ used ++ [tag]) (hn : candN (frOf tag) k ∉ used ++ [tag]) : nextSpec tag used = candN (frOf tag) k := by
  unfold nextSpec
  have : ((List.range 4095).map (candN (frOf tag))).find? (fun n => decide (n ∉ used ++ [tag])) = some (candN (frOf tag) k) := by
    rw [List.find?_map]
    rw [Option.map_eq_some_iff]
    refine ⟨k, ?_, rfl⟩
    rw [List.find?_range_eq_some]
    refine ⟨by simpa using hn, by simpa using hk, fun j hj => by simpa using h j hj⟩
  rw [this]; rfl
theorem nextSpec_none {tag : Int} {used : List Int} (h : ∀ j, j < 4095 → candN (frOf tag) j ∈ used ++ [tag]) : nextSpec tag used = 0 := by
  unfold nextSpec
  have : ((List.range 4095).map (candN (frOf tag))).find? (fun n => decide (n ∉ used ++ [tag])) = none := by
    rw [List.find?_eq_none]
    intro x hx
    obtain ⟨j, hj, rfl⟩ := List.mem_map.1 hx
    have := h j (by simpa using hj)
    rw [decide_eq_true_eq]
    exact fun hc => hc this
  rw [this]; rfl
theorem candN_range {fr : Int} (h0 : 0 ≤ fr) (i : Nat) : 1 ≤ candN fr i ∧ candN fr i ≤ 4095 := by unfold candN; omega
set_option maxHeartbeats 8000000 in
set_option maxRecDepth 100000 in
theorem tags_Next.main (a0 : Int) (A1 : Option Addr) (c1 : Nat) (l1 : List Int) (w : World) (hr1 : Kd.C (Kd.int .i64) w A1 l1.length l1) (hc1 : l1.length ≤ c1) (hm : l1.length < 17592186044415) :
    Calls Try.prog 19 #[.int .i64 a0, .slice A1 l1.length c1] w fun e w' => e = .returned (.int .i64 (nextSpec a0 l1)) ∧ Below w.heap.size w w' := by
  have HR := Aside0.mk hr1
  have HC := Aside0.mk hc1
  have HM := Aside0.mk hm
  clear hr1 hc1 hm
  go_enter Try.func19, Try.ntmps19
  go_wp2_with fail
  refine (slices_Clone_int_int.main A1 c1 l1 _ HR.out HC.out (by have := HM.out; omega)).mono ?_
  rintro e w1 ⟨v1, rfl, ho1, hb1⟩
  have HO1 := Aside0.mk ho1
  have HB1 := Aside0.mk hb1
  clear ho1 hb1
  go_wp2_with ((with_reducible refine gate_builtin (b := .append) (xs := #[.tmp 10, .tmp 12]) rfl ?_); at_builtin; refine Kd.R_append (Kd.int .i64) (w0 := w) w.heap.size rfl (.tmp 10) (.tmp 12) 39 3 (.int .i64 0) 8 rfl Try.underlying39 info3 rfl (by decide) (by omega) v1 l1 a0 [.int .i64 a0] (fun _ => True) (fun _ => False) rfl rfl rfl (fun _ h => h.elim) (fun _ _ => trivial) HO1.out HB1.out HB1.out.size ?aL ?_; (case aL => have := HM.out; omega); intro v2 w2 ho2 hb2 hg2 hat2; obtain ⟨A2, c2, rfl, hl2, hr2⟩ := Kd.R_reads ho2; have HR2 := Aside0.mk hr2; have HL2 := Aside0.mk hl2; have HB2 := Aside0.mk hb2; clear ho2 hb2 hg2 hat2 hl2 hr2)
  refine calls_of_args (args' := #[.slice A2 (l1 ++ [a0]).length c2]) (by simp) ?_
  refine (tags_taken.calls A2 c2 (l1 ++ [a0]) _ HR2.out HL2.out).mono ?_
  rintro e w3 ⟨rfl, hb3⟩
  have HB3 := Aside0.mk (below_then HB2.out HB2.out.size hb3)
  clear hb3
  go_wp2_with (first
    | ((with_reducible refine gate_alloc (t := 70) rfl ?_); refine wpList_alloc_row rfl 70 rfl (takenA []) zeroTags ?_)
    | ((with_reducible refine gate_store (t := 70) (x := .tmp 5) (y := .tmp 14) rfl ?_); refine wpList_store_row rfl 70 (.tmp 5) (.tmp 14) rfl w3.heap.size (takenA (l1 ++ [a0])) rfl rfl 70 (takenA []) (heap_alloc_new _ _) (by rw [takenA_size]; exact sizeTags) (by rw [takenA_size, takenA_size]) (takenA_one _) ?_; rw [World.setRow_alloc_new]; obtain ⟨w4, H4⟩ : ∃ w4, w3.alloc (.cells (takenA (l1 ++ [a0])) 70) = w4 := ⟨_, rfl⟩; rw [H4]; have HH := Aside0.mk (show w4.heap[w3.heap.size]? = some (.cells (takenA (l1 ++ [a0])) 70 (0, 0)) from H4 ▸ heap_alloc_new _ _); have HB := Aside0.mk (show Below w.heap.size w w4 from H4 ▸ below_alloc HB3.out _); clear H4))
  · have HF := Aside0.mk (show frOf a0 = 0 from by unfold frOf; first | rw [if_pos (by omega)] | rw [if_neg (by omega)])
    clear HR HC HM HR2 HL2 HB2 HB3 HO1 HB1
    go_loop [22] (fun i => ∃ k : Nat, k ≤ 4095 ∧ i = .int .i64 k ∧ Aside0 (∀ j, j < k → candN (frOf a0) j ∈ l1 ++ [a0])) (fun i => 4095 - (intOf i).toNat)
    case atStart => exact ⟨0, by omega, rfl, ⟨fun j hj => by omega⟩⟩
    case round =>
      obtain ⟨k, hk, rfl, HJ⟩ := hrel
      by_cases hlt : k < 4095
      · have HE := Aside0.mk (show candN (frOf a0) k = (k : Int) % 4095 + 1 from by rw [HF.out]; unfold candN; simp)
        have hr0 : 0 ≤ (k : Int) % 4095 + 1 := by omega
        have hr1 : (k : Int) % 4095 + 1 ≤ 4095 := by omega
        by_cases hin : candN (frOf a0) k ∈ l1 ++ [a0]
        · have hcell : w4.cell? ⟨w3.heap.size, k % 4095 + 1, none⟩ = some (.bool true) := by
            rw [cell_of_row _ _ _ _ _ _ HH.out, takenA_get _ _ (by omega), show ((((k % 4095 + 1) : Nat)) : Int) = candN (frOf a0) k by rw [HE.out]; omega, decide_eq_true hin]
          have HJ2 := Aside0.mk (show ∀ j, j < k + 1 → candN (frOf a0) j ∈ l1 ++ [a0] from fun j hj => by
            by_cases e : j = k
            · rw [e]; exact hin
            · exact HJ.out j (by omega))
          clear hin
          go_wp2
          go_round
          case rel => exact ⟨k + 1, by omega, by go_num, HJ2⟩
          case measure => simp [intOf]; omega
        · have hcell : w4.cell? ⟨w3.heap.size, k % 4095 + 1, none⟩ = some (.bool false) := by
            rw [cell_of_row _ _ _ _ _ _ HH.out, takenA_get _ _ (by omega), show ((((k % 4095 + 1) : Nat)) : Int) = candN (frOf a0) k by rw [HE.out]; omega, decide_eq_false hin]
          have HN := Aside0.mk (nextSpec_found hlt HJ.out hin)
          clear hin
          go_wp2
          go_ret
          exact ⟨by rw [HN.out, HE.out]; rfl, HB.out⟩
      · obtain rfl : k = 4095 := by omega
        have HN := Aside0.mk (nextSpec_none HJ.out)
        go_wp2
        go_ret
        exact ⟨by rw [HN.out]; rfl, HB.out⟩
  · have HF := Aside0.mk (show frOf a0 = a0 from by unfold frOf; first | rw [if_pos (by omega)] | rw [if_neg (by omega)])
    clear HR HC HM HR2 HL2 HB2 HB3 HO1 HB1
    go_loop [22] (fun i => ∃ k : Nat, k ≤ 4095 ∧ i = .int .i64 k ∧ Aside0 (∀ j, j < k → candN (frOf a0) j ∈ l1 ++ [a0])) (fun i => 4095 - (intOf i).toNat)
    case atStart => exact ⟨0, by omega, rfl, ⟨fun j hj => by omega⟩⟩
    case round =>
      obtain ⟨k, hk, rfl, HJ⟩ := hrel
      by_cases hlt : k < 4095
      · have HE := Aside0.mk (show candN (frOf a0) k = (a0 + (k : Int)) % 4095 + 1 from by rw [HF.out]; unfold candN; simp)
        have hr0 : 0 ≤ (a0 + (k : Int)) % 4095 + 1 := by omega
        have hr1 : (a0 + (k : Int)) % 4095 + 1 ≤ 4095 := by omega
        by_cases hin : candN (frOf a0) k ∈ l1 ++ [a0]
        · have hcell : w4.cell? ⟨w3.heap.size, ((a0 + (k : Int)) % 4095 + 1).toNat, none⟩ = some (.bool true) := by
            rw [cell_of_row _ _ _ _ _ _ HH.out, takenA_get _ _ (by omega), show ((((((a0 + (k : Int)) % 4095 + 1).toNat) : Nat)) : Int) = candN (frOf a0) k by rw [HE.out]; omega, decide_eq_true hin]
          have HJ2 := Aside0.mk (show ∀ j, j < k + 1 → candN (frOf a0) j ∈ l1 ++ [a0] from fun j hj => by
            by_cases e : j = k
            · rw [e]; exact hin
            · exact HJ.out j (by omega))
          clear hin
          go_wp2
          go_round
          case rel => exact ⟨k + 1, by omega, by go_num, HJ2⟩
          case measure => simp [intOf]; omega
        · have hcell : w4.cell? ⟨w3.heap.size, ((a0 + (k : Int)) % 4095 + 1).toNat, none⟩ = some (.bool false) := by
            rw [cell_of_row _ _ _ _ _ _ HH.out, takenA_get _ _ (by omega), show ((((((a0 + (k : Int)) % 4095 + 1).toNat) : Nat)) : Int) = candN (frOf a0) k by rw [HE.out]; omega, decide_eq_false hin]
          have HN := Aside0.mk (nextSpec_found hlt HJ.out hin)
          clear hin
          go_wp2
          go_ret
          exact ⟨by rw [HN.out, HE.out]; rfl, HB.out⟩
      · obtain rfl : k = 4095 := by omega
        have HN := Aside0.mk (nextSpec_none HJ.out)
        go_wp2
        go_ret
        exact ⟨by rw [HN.out]; rfl, HB.out⟩
  · have HF := Aside0.mk (show frOf a0 = 0 from by unfold frOf; first | rw [if_pos (by omega)] | rw [if_neg (by omega)])
    clear HR HC HM HR2 HL2 HB2 HB3 HO1 HB1
    go_loop [22] (fun i => ∃ k : Nat, k ≤ 4095 ∧ i = .int .i64 k ∧ Aside0 (∀ j, j < k → candN (frOf a0) j ∈ l1 ++ [a0])) (fun i => 4095 - (intOf i).toNat)
    case atStart => exact ⟨0, by omega, rfl, ⟨fun j hj => by omega⟩⟩
    case round =>
      obtain ⟨k, hk, rfl, HJ⟩ := hrel
      by_cases hlt : k < 4095
      · have HE := Aside0.mk (show candN (frOf a0) k = (k : Int) % 4095 + 1 from by rw [HF.out]; unfold candN; simp)
        have hr0 : 0 ≤ (k : Int) % 4095 + 1 := by omega
        have hr1 : (k : Int) % 4095 + 1 ≤ 4095 := by omega
        by_cases hin : candN (frOf a0) k ∈ l1 ++ [a0]
        · have hcell : w4.cell? ⟨w3.heap.size, k % 4095 + 1, none⟩ = some (.bool true) := by
            rw [cell_of_row _ _ _ _ _ _ HH.out, takenA_get _ _ (by omega), show ((((k % 4095 + 1) : Nat)) : Int) = candN (frOf a0) k by rw [HE.out]; omega, decide_eq_true hin]
          have HJ2 := Aside0.mk (show ∀ j, j < k + 1 → candN (frOf a0) j ∈ l1 ++ [a0] from fun j hj => by
            by_cases e : j = k
            · rw [e]; exact hin
            · exact HJ.out j (by omega))
          clear hin
          go_wp2
          go_round
          case rel => exact ⟨k + 1, by omega, by go_num, HJ2⟩
          case measure => simp [intOf]; omega
        · have hcell : w4.cell? ⟨w3.heap.size, k % 4095 + 1, none⟩ = some (.bool false) := by
            rw [cell_of_row _ _ _ _ _ _ HH.out, takenA_get _ _ (by omega), show ((((k % 4095 + 1) : Nat)) : Int) = candN (frOf a0) k by rw [HE.out]; omega, decide_eq_false hin]
          have HN := Aside0.mk (nextSpec_found hlt HJ.out hin)
          clear hin
          go_wp2
          go_ret
          exact ⟨by rw [HN.out, HE.out]; rfl, HB.out⟩
      · obtain rfl : k = 4095 := by omega
        have HN := Aside0.mk (nextSpec_none HJ.out)
        go_wp2
        go_ret
        exact ⟨by rw [HN.out]; rfl, HB.out⟩

def tags_Next.f (a0 : Int) (l1 : List Int) : Option (Int) := if l1.length < 17592186044415 then some (nextSpec a0 l1) else none
set_option maxHeartbeats 8000000 in
set_option maxRecDepth 100000 in
theorem tags_Next.calls (a0 : Int) (A1 : Option Addr) (c1 : Nat) (l1 : List Int) (r : Int) (w : World) (hr1 : Kd.C (Kd.int .i64) w A1 l1.length l1) (hc1 : l1.length ≤ c1) (h : tags_Next.f a0 l1 = some r) :
    Calls Try.prog 19 #[.int .i64 a0, .slice A1 l1.length c1] w fun e w' => e = .returned (.int .i64 r) ∧ Below w.heap.size w w' := by
  unfold tags_Next.f at h
  split at h
  · obtain rfl := Option.some.inj h
    exact tags_Next.main a0 A1 c1 l1 w hr1 hc1 ‹_›
  · cases h

end Go.Proofs.Ytifgncaihpoijaa.Print
