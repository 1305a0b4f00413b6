/- A text that a program of this session printed out of the translation: checked by Lean alone. -/
import Derived.Test.YtifgncaihpoijaaPrint0
import Derived.Test.YtifgncaihpoijaaPrint17
import Derived.Test.YtifgncaihpoijaaPrint18
import Derived.Test.YtifgncaihpoijaaPrintH
namespace Go.Proofs.Ytifgncaihpoijaa.Print
open Go.RowKit Go.Proofs.YtifgncaihpoijaaW.PrintWords Go.Proofs.YtifgncaihpoijaaW.PrintLast Go.Proofs.YtifgncaihpoijaaW.PrintMore
attribute [local go_sem] max2_int min2_int max_two min_two max_three min_three max_four min_four   -- for this text's walks alone
set_option linter.unusedVariables false
set_option linter.unusedSimpArgs false

/-! ### wires_Send: function 25 -/
theorem wires_all.at_ (k : Nat) (A0 : Option Addr) (c0 : Nat) (l0 : List S54) (B : Nat) (w : World) (hB : B ≤ w.heap.size) (hr : Kd.C k54 w A0 l0.length l0) (hc : l0.length ≤ c0) (h : wires_all.f k l0 = some l0) :
    Calls Try.prog 38 #[.slice A0 l0.length c0] w fun e w' => ∃ A1, e = .returned (.slice A1 l0.length l0.length) ∧ Kd.F k54 w' (fun k_ => B ≤ k_) A1 l0.length l0 ∧ Below w.heap.size w w' := by
  refine (wires_all.calls k A0 c0 l0 l0 w hr hc h).mono ?_
  rintro e w1 ⟨v1, rfl, ⟨A1, cc1, rfl, hf1⟩, hb1⟩
  exact ⟨A1, rfl, Kd.F_mono (Kd.R_F (Kd.R_bound hf1)) (fun _ hk => Nat.le_trans hB hk.2.1), hb1⟩
theorem wires_own.at_ (a0 : Int) (a1 : Bool) (A2 : Option Addr) (c2 : Nat) (l2 : List Int) (B : Nat) (w : World) (hB : B ≤ w.heap.size) (hr : Kd.C (Kd.int .u8) w A2 l2.length l2) (hc : l2.length ≤ c2) (h : wires_own.f a0 a1 l2 = some (a0, a1, l2)) :
    Calls Try.prog 39 #[.agg #[.int .i64 a0, .bool a1, .slice A2 l2.length c2]] w fun e w' => ∃ v2, e = .returned (.agg #[.int .i64 a0, .bool a1, v2]) ∧ Kd.FK k54 w' (fun k_ => B ≤ k_) ⟨a0, a1, l2⟩ [.int .i64 a0, .bool a1, v2] ∧ Below w.heap.size w w' := by
  refine (wires_own.calls a0 a1 A2 c2 l2 a0 a1 l2 w hr hc h).mono ?_
  rintro e w1 ⟨v2, rfl, hf2, hb1⟩
  exact ⟨v2, rfl, Kd.FK_mono (Kd.FK_of_M (k54_mkM w1 w.heap.size _ ⟨a0, a1, l2⟩ (Kd.R_bound hf2))) (fun _ hk => Nat.le_trans hB hk.2.1), hb1⟩
theorem FK_alloc {α : Type} {d : Kd α} {W : World} {ok : Nat → Prop} {x : α} {c : List Value} (h : Kd.FK d W ok x c) (o : Obj) : Kd.FK d (W.alloc o) ok x c := Kd.FK_below h (below_alloc (Below.refl _ _) o)
theorem news_alloc (X : World) (row : Array Value) (t : TypeId) : ∀ j u, row.toList[j]? = some u → (X.alloc (.cells row t)).cell? (Addr.add ⟨X.heap.size, 0, none⟩ j) = some u := fun j u hj => by
  have := (cell_of_row _ _ j _ _ _ (heap_alloc_new X (.cells row t))).trans (Array.getElem?_toList.symm.trans hj)
  by_cases h0 : j = 0
  · subst h0; simpa [Addr.add] using this
  · simpa [Addr.add, h0] using this
theorem news_below {X W : World} {ad : Addr} {cs : List Value} (h : ∀ j u, cs[j]? = some u → X.cell? (ad.add j) = some u) (hb : Below X.heap.size X W) : ∀ j u, cs[j]? = some u → W.cell? (ad.add j) = some u := fun j u hj => (hb.cell (World.block_lt_of_cell? X (ad.add j) (h j u hj))).trans (h j u hj)
theorem with_below (w0 : World) {W : World} {X : Prop} (h : Below w0.heap.size w0 W) (f : Below w0.heap.size w0 W → X) : X := f h
theorem wires_own.at2 (x : S54) (A2 : Option Addr) (c2 : Nat) (w : World) (hr : Kd.C (Kd.int .u8) w A2 x.f2.length x.f2) (hc : x.f2.length ≤ c2) (h : wires_own.f x.f0 x.f1 x.f2 = some (x.f0, x.f1, x.f2)) :
    Calls Try.prog 39 #[.agg #[.int .i64 x.f0, .bool x.f1, .slice A2 x.f2.length c2]] w fun e w' => ∃ A3 c3, e = .returned (.agg #[.int .i64 x.f0, .bool x.f1, .slice A3 x.f2.length c3]) ∧ x.f2.length ≤ c3 ∧ Kd.F (Kd.int .u8) w' (fun k_ => w.heap.size ≤ k_) A3 x.f2.length x.f2 ∧ Below w.heap.size w w' := by
  refine (wires_own.calls x.f0 x.f1 A2 c2 x.f2 x.f0 x.f1 x.f2 w hr hc h).mono ?_
  rintro e w1 ⟨v2, rfl, hf2, hb1⟩
  obtain ⟨A3, c3, rfl⟩ := Kd.R_slice hf2
  exact ⟨A3, c3, rfl, (Kd.R_reads' hf2).2.1, Kd.F_mono (Kd.R_F (Kd.R_bound hf2)) (fun _ hk => hk.2.1), hb1⟩
def wiresSmall (l : List S54) : Prop := l.length < 1000000 ∧ ∀ x ∈ l, x.f2.length < 140737488355328
instance (l : List S54) : Decidable (wiresSmall l) := by unfold wiresSmall; infer_instance
theorem rd_wire {l : List S54} {i : Nat} (h : i < l.length) : rd_T54 l (i : Int) = l[i] := by simp [rd_T54, h]
theorem own_some (x : S54) (h : x.f2.length < 140737488355328) : wires_own.f x.f0 x.f1 x.f2 = some (x.f0, x.f1, x.f2) := by
  unfold wires_own.f slices_Clone_byte_byte.f
  rw [if_pos h]
  rfl
theorem all_l0 (l : List S54) (hs : wiresSmall l) : ∀ (m : Nat) (acc : List S54) (i : Nat), l.length - i = m → i ≤ l.length → acc.length = i → Ev (fun k => wires_all.l0 k acc l (l.length : Int) (i : Int)) (acc ++ l.drop i)
  | 0, acc, i, hm, hi, ha => by
    refine Ev.step (fun k => by rw [wires_all.l0]) (ev_neg (by omega) (ev_eq ?_))
    rw [List.drop_of_length_le (by omega), List.append_nil]
  | m + 1, acc, i, hm, hi, ha => by
    have hlt : i < l.length := by omega
    have hs1 := hs.1
    refine Ev.step (fun k => by rw [wires_all.l0]) ?_
    refine ev_pos (by omega) ?_
    refine ev_pos (by omega) ?_
    refine ev_pos (by omega) ?_
    refine ev_bindc (own_some (rd_T54 l (i : Int)) (by rw [rd_wire hlt]; exact hs.2 _ (List.getElem_mem hlt))) ?_
    refine ev_pos (by omega) ?_
    have := all_l0 l hs m (acc ++ [rd_T54 l (i : Int)]) (i + 1) (by omega) hlt (by simp [ha])
    rw [wrap_id (by omega) (by omega)]
    have e : (acc ++ [rd_T54 l (i : Int)]) ++ l.drop (i + 1) = acc ++ l.drop i := by rw [rd_wire hlt, List.append_assoc, List.singleton_append, List.getElem_cons_drop]
    rw [e] at this
    exact this
theorem all_some (l : List S54) (hs : wiresSmall l) : ∃ k, wires_all.f k l = some l := by
  obtain ⟨k, hk⟩ := Ev.rounds (all_l0 l hs l.length [] 0 rfl (Nat.zero_le _) rfl)
  exact ⟨k, hk⟩
def sendSpec (l : List S54) (x : S54) : List S54 × Bool := if 60 ≤ l.length then (l, false) else (l ++ [x], true)
set_option maxHeartbeats 8000000 in
set_option maxRecDepth 100000 in
theorem wires_Send.main (k : Nat) (A0 : Option Addr) (c0 : Nat) (l0 : List S54) (a1_0 : Int) (a1_1 : Bool) (A1_2 : Option Addr) (c1_2 : Nat) (l1_2 : List Int) (w : World)
    (hr0 : Kd.C k54 w A0 l0.length l0) (hc0 : l0.length ≤ c0) (hr1_2 : Kd.C (Kd.int .u8) w A1_2 l1_2.length l1_2) (hc1_2 : l1_2.length ≤ c1_2) (hall : wires_all.f k l0 = some l0) (hown : wires_own.f a1_0 a1_1 l1_2 = some (a1_0, a1_1, l1_2)) :
    Calls Try.prog 25 #[.slice A0 l0.length c0, .agg #[.int .i64 a1_0, .bool a1_1, .slice A1_2 l1_2.length c1_2]] w fun e w' => ∃ v0_ : Value, e = .returned (.tuple #[v0_, .bool (sendSpec l0 ⟨a1_0, a1_1, l1_2⟩).2]) ∧ Kd.V k54 54 w' w.heap.size (fun k_ => (w.heap.size ≤ k_)) v0_ (sendSpec l0 ⟨a1_0, a1_1, l1_2⟩).1 ∧ Below w.heap.size w w' := by
  have HR := Aside0.mk hr0
  have HC := Aside0.mk hc0
  have HR2 := Aside0.mk hr1_2
  have HC2 := Aside0.mk hc1_2
  have HALL := Aside0.mk hall
  have HOWN := Aside0.mk hown
  clear hr0 hc0 hr1_2 hc1_2 hall hown
  by_cases hl : 60 ≤ l0.length
  · have HS := Aside0.mk (show sendSpec l0 ⟨a1_0, a1_1, l1_2⟩ = (l0, false) from if_pos hl)
    go_enter Try.func25, Try.ntmps25
    go_wp2_with (go_at_call 38; (refine (wires_all.calls k A0 c0 l0 l0 _ (Kd.C_alloc HR.out _) HC.out HALL.out).mono ?_); rintro e w1 ⟨v1, rfl, hf1, hb1⟩)
    go_ret2
    rw [HS.out]
    exact ⟨_, rfl, Kd.V_mono (FullRow_V hf1) (fun _ h => Nat.le_trans (by simp) h), (below_alloc (Below.refl _ _) _).trans (hb1.mono (by simp))⟩
  · have HS := Aside0.mk (show sendSpec l0 ⟨a1_0, a1_1, l1_2⟩ = (l0 ++ [⟨a1_0, a1_1, l1_2⟩], true) from if_neg hl)
    have hbx := heap_alloc_new w (.cells #[.int .i64 a1_0, .bool a1_1, .slice A1_2 l1_2.length c1_2] 54)
    have hB0 : Below w.heap.size w (w.alloc (.cells #[.int .i64 a1_0, .bool a1_1, .slice A1_2 l1_2.length c1_2] 54)) := below_alloc (Below.refl _ _) _
    have hsz : (w.alloc (.cells #[.int .i64 a1_0, .bool a1_1, .slice A1_2 l1_2.length c1_2] 54)).heap.size = w.heap.size + 1 := by simp
    have HRa := Aside0.mk (Kd.C_below HR.out hB0)
    have HRb := Aside0.mk (Kd.C_below HR2.out hB0)
    go_enter Try.func25, Try.ntmps25
    go_wp2_with fail
    obtain ⟨w0, hw0⟩ : ∃ w0, w.alloc (.cells #[.int .i64 a1_0, .bool a1_1, .slice A1_2 l1_2.length c1_2] 54) = w0 := ⟨_, rfl⟩
    rw [hw0] at hbx hB0 hsz HRa HRb ⊢
    clear hw0
    have HB0 := Aside0.mk hB0
    have HSZ := Aside0.mk hsz
    have HBX := Aside0.mk hbx
    have HB := Aside0.mk (Below.refl w0.heap.size w0)
    have HL := Aside0.mk hl
    clear hl
    have k0 : w0.cell? ⟨w.heap.size, 0, none⟩ = some (.int .i64 a1_0) := (cell_of_row _ _ _ _ _ _ hbx).trans rfl
    have k1 : w0.cell? ⟨w.heap.size, 1, none⟩ = some (.bool a1_1) := (cell_of_row _ _ _ _ _ _ hbx).trans rfl
    have k2 : w0.cell? ⟨w.heap.size, 2, none⟩ = some (.slice A1_2 l1_2.length c1_2) := (cell_of_row _ _ _ _ _ _ hbx).trans rfl
    clear hbx hB0 hsz
    have K0 := Aside0.mk k0
    have K1 := Aside0.mk k1
    have K2 := Aside0.mk k2
    go_region_law (first
      | (refine goes_ Try.func38 (by kernel_rfl) rfl #[.slice A0 l0.length c0] (by rfl) rfl rfl (by first | rfl | simp [Act.eval, Act.put]) ?_; refine Calls.mono (wires_all.at_ k A0 c0 l0 w.heap.size _ ?_ ?_ HC.out HALL.out) ?_; (exact Nat.le_trans (Nat.le_trans (Nat.le_succ _) (Nat.le_of_eq HSZ.out.symm)) (show Below w0.heap.size w0 _ from (by repeat (first | exact HB.out | apply below_alloc | apply below_drew1 | apply pw_below_drewN))).size); (exact Kd.C_below HRa.out (by repeat (first | exact HB.out | apply below_alloc | apply below_drew1 | apply pw_below_drewN))); rintro e w1 ⟨A1, rfl, hf1, hb1⟩; (try have HOW := Aside0.mk (Kd.FK_below HOW.out hb1)); (try have HNW := Aside0.mk (news_below (news_alloc _ _ _) hb1)); (try have HOW := Aside0.mk (Kd.FK_below (FK_alloc HOW.out _) hb1)); have HBn := Aside0.mk (below_step (by repeat (first | exact HB.out | apply below_alloc | apply below_drew1 | apply pw_below_drewN)) hb1); replace k0 := (HBn.out.cell (p := ⟨w.heap.size, 0, none⟩) (by have h1 := HSZ.out; show w.heap.size < w0.heap.size; omega)).trans K0.out; replace k1 := (HBn.out.cell (p := ⟨w.heap.size, 1, none⟩) (by have h1 := HSZ.out; show w.heap.size < w0.heap.size; omega)).trans K1.out; replace k2 := (HBn.out.cell (p := ⟨w.heap.size, 2, none⟩) (by have h1 := HSZ.out; show w.heap.size < w0.heap.size; omega)).trans K2.out; clear HB; have HB := HBn; clear HBn; have HFA := Aside0.mk hf1; clear hf1 hb1; refine ⟨_, rfl, ?_⟩)
      | (refine goes_ Try.func39 (by kernel_rfl) rfl #[.agg #[.int .i64 a1_0, .bool a1_1, .slice A1_2 l1_2.length c1_2]] (by rfl) rfl rfl (by first | rfl | simp [Act.eval, Act.put]) ?_; refine Calls.mono (wires_own.at_ a1_0 a1_1 A1_2 c1_2 l1_2 w.heap.size _ ?_ ?_ HC2.out HOWN.out) ?_; (exact Nat.le_trans (Nat.le_trans (Nat.le_succ _) (Nat.le_of_eq HSZ.out.symm)) (show Below w0.heap.size w0 _ from (by repeat (first | exact HB.out | apply below_alloc | apply below_drew1 | apply pw_below_drewN))).size); (exact Kd.C_below HRb.out (by repeat (first | exact HB.out | apply below_alloc | apply below_drew1 | apply pw_below_drewN))); rintro e w1 ⟨v2, rfl, hf2, hb1⟩; (try have HFA := Aside0.mk (Kd.F_below HFA.out hb1)); have HBn := Aside0.mk (below_step (by repeat (first | exact HB.out | apply below_alloc | apply below_drew1 | apply pw_below_drewN)) hb1); replace k0 := (HBn.out.cell (p := ⟨w.heap.size, 0, none⟩) (by have h1 := HSZ.out; show w.heap.size < w0.heap.size; omega)).trans K0.out; replace k1 := (HBn.out.cell (p := ⟨w.heap.size, 1, none⟩) (by have h1 := HSZ.out; show w.heap.size < w0.heap.size; omega)).trans K1.out; replace k2 := (HBn.out.cell (p := ⟨w.heap.size, 2, none⟩) (by have h1 := HSZ.out; show w.heap.size < w0.heap.size; omega)).trans K2.out; clear HB; have HB := HBn; clear HBn; have HOW := Aside0.mk hf2; clear hf2 hb1; refine ⟨_, rfl, ?_⟩)
      | (refine step_append_full k54 rfl (.tmp 12) (.tmp 15) 51 54 (.agg #[.int .i64 0, .bool false, .slice none 0 0]) 40 rfl (by kernel_rfl) (by kernel_rfl) rfl (by decide) (by decide) _ l0 ⟨a1_0, a1_1, l1_2⟩ [.int .i64 a1_0, .bool a1_1, _] (fun k_ => w.heap.size ≤ k_) _ 1 (by first | rfl | simp [Act.eval, Act.put]) (by first | rfl | simp [Act.eval, Act.put]) (by first | exact HFA.out | exact Kd.F_alloc HFA.out _) (by first | exact HOW.out | exact FK_alloc HOW.out _) (by first | exact HNW.out | exact news_alloc _ _ _) (by have := HL.out; omega) ?_; intro v9 w9 hN9 hg9; have HN := Aside0.mk (show Kd.V k54 54 w9 w.heap.size (fun k_ => w.heap.size ≤ k_) v9 _ from Kd.V_mono (Kd.N_V hN9) (fun k_ hk => hk.elim id (fun h => Nat.le_trans (Nat.le_trans (Nat.le_trans (Nat.le_succ _) (Nat.le_of_eq HSZ.out.symm)) (show Below w0.heap.size w0 _ from (by repeat (first | exact HB.out | apply below_alloc | apply below_drew1 | apply pw_below_drewN))).size) h))); have HB9 := Aside0.mk ((show Below w0.heap.size w0 _ from (by repeat (first | exact HB.out | apply below_alloc | apply below_drew1 | apply pw_below_drewN))).grown hg9 (show Below w0.heap.size w0 _ from (by repeat (first | exact HB.out | apply below_alloc | apply below_drew1 | apply pw_below_drewN))).size (fun _ h => by simp at h)); clear hN9 hg9))
    all_goals go_wp2_with fail
    all_goals go_ret2
    all_goals (rw [HS.out]; exact ⟨_, rfl, HN.out, Below.trans HB0.out (HB9.out.mono (by rw [HSZ.out]; exact Nat.le_succ _))⟩)
theorem wires_Send.main2 (A0 : Option Addr) (c0 : Nat) (l0 : List (S54)) (a1_0 : Int) (a1_1 : Bool) (A1_2 : Option Addr) (c1_2 : Nat) (l1_2 : List Int) (w : World) (hr0 : Kd.C k54 w A0 l0.length l0) (hc0 : l0.length ≤ c0) (hr1_2 : Kd.C (Kd.int .u8) w A1_2 l1_2.length l1_2) (hc1_2 : l1_2.length ≤ c1_2) (hs : wiresSmall l0 ∧ l1_2.length < 140737488355328) (r1 : List (S54)) (r2 : Bool) (h : sendSpec l0 ⟨a1_0, a1_1, l1_2⟩ = (r1, r2)) :
    Calls Try.prog 25 #[.slice A0 l0.length c0, .agg #[.int .i64 a1_0, .bool a1_1, .slice A1_2 l1_2.length c1_2]] w fun e w' => ∃ v0_ : Value, e = .returned (.tuple #[v0_, .bool r2]) ∧ Kd.V k54 54 w' w.heap.size (fun k_ => (w.heap.size ≤ k_)) v0_ r1 ∧ Below w.heap.size w w' := by
  obtain ⟨k, hk⟩ := all_some l0 hs.1
  have := wires_Send.main k A0 c0 l0 a1_0 a1_1 A1_2 c1_2 l1_2 w hr0 hc0 hr1_2 hc1_2 hk (own_some ⟨a1_0, a1_1, l1_2⟩ hs.2)
  rw [h] at this
  exact this

def wires_Send.f (l0 : List (S54)) (a1_0 : Int) (a1_1 : Bool) (l1_2 : List Int) : Option (List (S54) × Bool) := if wiresSmall l0 ∧ l1_2.length < 140737488355328 then some (sendSpec l0 ⟨a1_0, a1_1, l1_2⟩) else none
set_option maxHeartbeats 8000000 in
set_option maxRecDepth 100000 in
theorem wires_Send.calls (A0 : Option Addr) (c0 : Nat) (l0 : List (S54)) (a1_0 : Int) (a1_1 : Bool) (A1_2 : Option Addr) (c1_2 : Nat) (l1_2 : List Int) (r1 : List (S54)) (r2 : Bool) (w : World) (hr0 : Kd.C k54 w A0 l0.length l0) (hc0 : l0.length ≤ c0) (hr1_2 : Kd.C (Kd.int .u8) w A1_2 l1_2.length l1_2) (hc1_2 : l1_2.length ≤ c1_2) (h : wires_Send.f l0 a1_0 a1_1 l1_2 = some (r1, r2)) :
    Calls Try.prog 25 #[.slice A0 l0.length c0, .agg #[.int .i64 a1_0, .bool a1_1, .slice A1_2 l1_2.length c1_2]] w fun e w' => ∃ v0_ : Value, e = .returned (.tuple #[v0_, .bool r2]) ∧ Kd.V k54 54 w' w.heap.size (fun k_ => (w.heap.size ≤ k_)) v0_ r1 ∧ Below w.heap.size w w' := by
  unfold wires_Send.f at h
  split at h
  · exact wires_Send.main2 A0 c0 l0 a1_0 a1_1 A1_2 c1_2 l1_2 w hr0 hc0 hr1_2 hc1_2 ‹_› r1 r2 (Option.some.inj h)
  · cases h

end Go.Proofs.Ytifgncaihpoijaa.Print
