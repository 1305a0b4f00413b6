/- A text that a program of this session printed out of the translation: checked by Lean alone. -/
import Derived.Test.YtibkmiffibacbaaPrint0
import Derived.Test.YtibkmiffibacbaaPrint32
import Derived.Test.YtibkmiffibacbaaPrintH
namespace Go.Proofs.Ytibkmiffibacbaa.Print
open Go.RowKit Go.Proofs.YtibkmiffibacbaaW.PrintWords Go.Proofs.YtibkmiffibacbaaW.PrintLast Go.Proofs.YtibkmiffibacbaaW.PrintMore
attribute [local go_sem] max2_int min2_int max_two min_two max_three min_three max_four min_four   -- for this text's walks alone
set_option linter.unusedVariables false
set_option linter.unusedSimpArgs false

/-! ### plan_Sync: function 14 -/
set_option maxHeartbeats 4000000 in
set_option maxRecDepth 100000 in
theorem doVer (b : Nat) (A : Option Addr) (c : Nat) (l : List S37) (w00 w : World) (I : Nat → World → Prop) (h0 : I 0 w) (hB : ∀ i w', I i w' → Below w00.heap.size w00 w')
    (hC : Kd.C k37 w00 A l.length l) (hc : l.length ≤ c) (hstable : ∀ i w' w'', I i w' → Below w'.heap.size w' w'' → I i w'')
    (hstep : ∀ (i : Nat) (w' : World) (A2 : Option Addr) (c2 : Nat) (hi : i < l.length), I i w' → (l[i]).f1.length ≤ c2 → Kd.C k32 w00 A2 (l[i]).f1.length (l[i]).f1 → Calls Try.prog 34 #[.agg #[.int .i64 (l[i]).f0, .slice A2 (l[i]).f1.length c2], .pointer (some ⟨b, 0, none⟩)] w' fun e w'' => e = .returned (.tuple #[]) ∧ I (i + 1) w'') :
    Calls Try.prog 33 #[.slice A l.length c, .func (.func 34) #[] #[.pointer (some ⟨b, 0, none⟩)]] w fun e w' => e = .returned (.tuple #[]) ∧ I l.length w' := by
  have hlm : l.length ≤ 9223372036854775807 := hC.2.1
  have H0 := Aside0.mk h0
  have HB := Aside0.mk hB
  have HC := Aside0.mk hC
  have HL := Aside0.mk hc
  have HST := Aside0.mk hstable
  have HS := Aside0.mk hstep
  have HM := Aside0.mk hlm
  clear h0 hB hC hc hstable hstep hlm
  go_enter Try.func33, Try.ntmps33
  go_wp2
  go_loopg [8] l.length (fun kq v8 w' => ∃ (i : Nat), v8 = .int .i64 (i : Int) ∧ Aside0 (i + kq = l.length) ∧ Aside0 (I i w'))
  case atStart => exact ⟨0, by first | rfl | (simp; done), ⟨Nat.zero_add _⟩, H0⟩
  case round =>
    obtain ⟨i, rfl, HK, HI⟩ := hrel
    cases gk with
    | zero =>
      have hlt : ¬ ((i : Int) < (l.length : Int)) := by have := HK.out; omega
      have hil : i = l.length := by have := HK.out; omega
      have hlt2 : ¬ (i < l.length) := by omega
      have HE := Aside0.mk (show I l.length wr from hil ▸ HI.out)
      clear hil
      go_wp2_with fail
      go_end0
      exact ⟨rfl, HE.out⟩
    | succ k1 =>
      have hlt : i < l.length := by have := HK.out; omega
      have hlt1 : (i : Int) < (l.length : Int) := by omega
      have p0 : (0 : Int) ≤ (i : Int) := by omega
      obtain ⟨ad, A2, c2, eA, e0, e1, hl2, hr2⟩ := at_T37 HC.out (i : Int) p0 hlt1
      subst eA
      rw [Int.toNat_natCast] at e0 e1
      have hx : rd_T37 l (i : Int) = l[i] := by simp [rd_T37, hlt]
      rw [hx] at e0 e1 hl2 hr2
      have hbw := HB.out i wr HI.out
      replace e0 := (hbw.cell (World.block_lt_of_cell? _ _ e0)).trans e0
      replace e1 := (hbw.cell (World.block_lt_of_cell? _ _ e1)).trans e1
      have HX := Aside0.mk hx
      have hw : IntKind.i64.wrap ((i : Int) + 1) = ((i + 1 : Nat) : Int) := by have := HM.out; rw [IntKind.wrap_i64]; omega
      clear hx hbw
      have H_hl2 := Aside0.mk hl2
      clear hl2
      have H_hr2 := Aside0.mk hr2
      clear hr2
      go_wp2_with (first
        | ((with_reducible refine gate_dst (N := 5) rfl ?_); refine box_event ?hg (N := 5) ?hd (cs := #[.int .i64 0, .slice none 0 0]) (t := 37) ?hr ?_; (case hd => rfl); (case hg => rfl); (case hr => first | (go_simp; done) | (go_simp; rfl)); intro gb hgb w7 hbox hb7; have z0 : w7.cell? ⟨gb, 0, none⟩ = some _ := (cell_of_row _ _ _ _ _ _ hbox).trans rfl; have y0 : w7.frozen? ⟨gb, 0, none⟩ = false := frozen_of_row _ _ _ _ _ hbox; have z1 : w7.cell? ⟨gb, 1, none⟩ = some _ := (cell_of_row _ _ _ _ _ _ hbox).trans rfl; have y1 : w7.frozen? ⟨gb, 1, none⟩ = false := frozen_of_row _ _ _ _ _ hbox; have HGB := Aside0.mk hgb; have HB7 := Aside0.mk hb7; clear hbox hgb hb7)
        | (go_at_call 34; refine (HS.out i _ A2 c2 hlt (HST.out i wr _ HI.out (below_setCells_ (g := gb) (Nat.le_of_eq HGB.out.symm) 0 [_, _] HB7.out)) H_hl2.out H_hr2.out).mono ?_; rintro e w9 ⟨rfl, hI9⟩; have HI9 := Aside0.mk hI9; clear hI9))
      go_roundg k1
      case measure => omega
      case rel => exact ⟨i + 1, by first | rfl | (rw [hw]), ⟨by have := HK.out; omega⟩, HI9⟩
def SyncInv (B b : Nat) (w00 : World) (xs : List S34) (w : World) : Prop :=
  ∃ v : Value, w.heap[b]? = some (.cells #[v] 25 (0, 0)) ∧ Kd.R k34 34 w B (fun _ => True) v xs ∧ Below B w00 w
theorem SyncInv.stable {B b : Nat} {w00 w w' : World} {xs : List S34} (h : SyncInv B b w00 xs w) (hB : B ≤ w.heap.size) (hb : Below w.heap.size w w') : SyncInv B b w00 xs w' := by
  obtain ⟨v, h1, h3, h4⟩ := h
  exact ⟨v, (hb.block b (Array.getElem?_eq_some_iff.1 h1).1).trans h1, Kd.R_below h3 hb, below_then h4 hB hb⟩
set_option maxHeartbeats 4000000 in
set_option maxRecDepth 100000 in
theorem sync1 (B b : Nat) (tag : Int) (A2 : Option Addr) (c2 : Nat) (l : List S32) (xs : List S34) (w00 w : World) (hB : B ≤ b) (hI : SyncInv B b w00 xs w) (hl : xs.length < 1000000000) (hl2 : l.length < 1000000) (hc2 : l.length ≤ c2) (hr2 : Kd.C k32 w A2 l.length l) :
    Calls Try.prog 34 #[.agg #[.int .i64 tag, .slice A2 l.length c2], .pointer (some ⟨b, 0, none⟩)] w fun e w' => e = .returned (.tuple #[]) ∧ SyncInv B b w00 (xs ++ addsSpec tag l) w' := by
  obtain ⟨v, hb, hR, hBl⟩ := hI
  obtain ⟨Av, cv, rfl⟩ := Kd.R_slice hR
  have hbl : b < w.heap.size := (Array.getElem?_eq_some_iff.1 hb).1
  have hba := below_alloc (Below.refl w.heap.size w) (.cells #[.int .i64 tag, .slice A2 l.length c2] 37)
  have hnew := heap_alloc_new w (.cells #[.int .i64 tag, .slice A2 l.length c2] 37)
  have hsz := alloc_size_ w (.cells #[.int .i64 tag, .slice A2 l.length c2] 37)
  go_enter Try.func34, Try.ntmps34
  go_wp2_with fail
  obtain ⟨w0, hw0⟩ : ∃ w0, w.alloc (.cells #[.int .i64 tag, .slice A2 l.length c2] 37) = w0 := ⟨_, rfl⟩
  rw [hw0] at hba hnew hsz ⊢
  have HRR := Aside0.mk (Kd.R_below hR hba)
  have HBA := Aside0.mk (below_then hBl (by omega) hba)
  have HBB := Aside0.mk ((hba.block b hbl).trans hb)
  have HR2 := Aside0.mk (Kd.C_below hr2 hba)
  have HC2 := Aside0.mk hc2
  have HX := Aside0.mk (⟨hB, hl, hbl, hl2, hsz⟩ : B ≤ b ∧ xs.length < 1000000000 ∧ b < w.heap.size ∧ l.length < 1000000 ∧ w0.heap.size = w.heap.size + 1)
  have HNEW := Aside0.mk hnew
  have HB := Aside0.mk (Below.refl w0.heap.size w0)
  obtain ⟨kb, qb⟩ := cell1 HBB.out
  have x0 : w0.cell? ⟨w.heap.size, 0, none⟩ = some (.int .i64 tag) := (cell_of_row _ _ _ _ _ _ hnew).trans rfl
  have x1 : w0.cell? ⟨w.heap.size, 1, none⟩ = some (.slice A2 l.length c2) := (cell_of_row _ _ _ _ _ _ hnew).trans rfl
  have KB := Aside0.mk kb
  have QB := Aside0.mk qb
  have X0 := Aside0.mk x0
  have X1 := Aside0.mk x1
  clear hb hR hBl hba hnew hsz hB hl hbl hl2 hc2 hr2 hw0
  go_region_law (first
    | (refine goes_ Try.func31 (by kernel_rfl) rfl #[.int .i64 tag, .slice A2 l.length c2] (by rfl) rfl rfl (by first | rfl | simp [Act.eval, Act.put]) ?_; refine Calls.mono (plan_Adds.main tag A2 c2 l _ ?_ HC2.out HX.out.2.2.2.1) ?_; exact Kd.C_below HR2.out (by repeat (first | exact HB.out | apply below_alloc | apply below_drew1 | apply pw_below_drewN)); rintro e w2 ⟨v9, rfl, h9, hb9⟩; obtain ⟨A9, c9, rfl⟩ := Kd.R_slice h9; have HBn := Aside0.mk (below_step (by repeat (first | exact HB.out | apply below_alloc | apply below_drew1 | apply pw_below_drewN)) hb9); replace kb := (HBn.out.cell (p := ⟨b, 0, none⟩) (by have h1 := HX.out; show b < w0.heap.size; omega)).trans KB.out; replace qb := (HBn.out.frozen (p := ⟨b, 0, none⟩) (by have h1 := HX.out; show b < w0.heap.size; omega)).trans QB.out; replace x0 := (HBn.out.cell (p := ⟨w.heap.size, 0, none⟩) (by have h1 := HX.out; show w.heap.size < w0.heap.size; omega)).trans X0.out; replace x1 := (HBn.out.cell (p := ⟨w.heap.size, 1, none⟩) (by have h1 := HX.out; show w.heap.size < w0.heap.size; omega)).trans X1.out; clear HB; have HB := HBn; clear HBn; have H9 := Aside0.mk h9; clear h9 hb9; refine ⟨_, rfl, ?_⟩)
    | (refine Kd.R_append_rows_step k34 (w0 := w00) B (by rfl) (.tmp 3) (.tmp 8) 25 34 _ 80 rfl Try.underlying25 info34 rfl (by decide) (by decide) (.slice Av xs.length cv) xs (addsSpec tag l) A9 _ c9 (fun _ => True) (fun _ => False) (by first | rfl | simp [Act.eval, Act.put]) (by first | rfl | simp [Act.eval, Act.put]) (Kd.R_below HRR.out HB.out) (Kd.R_reads' H9.out).2.2 (fun x cs hk => by rw [k34_open hk]; exact k34_mkM _ _ _ x) (fun _ h => h.elim) (fun _ _ => trivial) (below_then HBA.out (by have h1 := HX.out; omega) HB.out) ?_ ?_ ?_; (have h1 := HX.out; have h2 := HB.out.size; omega); (have h1 := HX.out; simp only [addsSpec, List.length_map]; omega); intro v2 w3 ho2 hb2 hg2 hat2; obtain ⟨A3, c3, rfl⟩ := Kd.R_slice ho2; have hbb := (hg2.block b (by have h1 := HX.out; have h2 := HB.out.size; omega) (Kd.R_ne (Kd.R_below HRR.out HB.out) ((HB.out.block b (by have h1 := HX.out; omega)).trans HBB.out) (by decide))).trans ((HB.out.block b (by have h1 := HX.out; omega)).trans HBB.out); obtain ⟨kb2, qb2⟩ := cell1 hbb; have HO2 := Aside0.mk ho2; have HB2 := Aside0.mk hb2; have HBB2 := Aside0.mk hbb; clear ho2 hb2 hg2 hat2 hbb))
  all_goals go_wp2_with fail
  all_goals go_end0
  all_goals exact ⟨rfl, _, set1 HBB2.out _, (by have h9 := Kd.R_set HO2.out HBB2.out (by decide) 0 (.slice A3 (xs ++ addsSpec tag l).length c3); rw [List.length_append] at h9; exact h9), below_setCell_ HX.out.1 _ _ HB2.out⟩
theorem sync_len : ∀ (l : List S37), (∀ v ∈ l, v.f1.length < 1000) → (l.flatMap fun v => addsSpec v.f0 v.f1).length ≤ l.length * 1000
  | [], _ => by simp
  | v :: l, h => by
    have ih := sync_len l (fun x hx => h x (List.mem_cons_of_mem _ hx))
    have hv := h v List.mem_cons_self
    rw [List.flatMap_cons, List.length_append, List.length_cons]
    have : (addsSpec v.f0 v.f1).length = v.f1.length := by unfold addsSpec; rw [List.length_map]
    omega
def syncAcc (l : List S37) (i : Nat) : List S34 := (l.take i).flatMap fun v => addsSpec v.f0 v.f1
theorem sync_step (l : List S37) (w w' : World) (A2 : Option Addr) (c2 : Nat) (i : Nat) (hi : i < l.length) (hl : l.length < 1000 ∧ ∀ v ∈ l, v.f1.length < 1000) (h : SyncInv w.heap.size w.heap.size w (syncAcc l i) w') (hc2 : (l[i]).f1.length ≤ c2) (hr2 : Kd.C k32 w A2 (l[i]).f1.length (l[i]).f1) :
    Calls Try.prog 34 #[.agg #[.int .i64 (l[i]).f0, .slice A2 (l[i]).f1.length c2], .pointer (some ⟨w.heap.size, 0, none⟩)] w' fun e w'' => e = .returned (.tuple #[]) ∧ SyncInv w.heap.size w.heap.size w (syncAcc l (i + 1)) w'' := by
  unfold syncAcc at h ⊢
  have hb : Below w.heap.size w w' := by obtain ⟨v, h1, h2, h3⟩ := h; exact h3
  have hlen := sync_len (l.take i) (fun v hv => hl.2 v (List.mem_of_mem_take hv))
  have hlen2 : ((l.take i).flatMap fun v => addsSpec v.f0 v.f1).length < 1000000000 := by
    have h5 : (l.take i).length ≤ l.length := by rw [List.length_take]; exact Nat.min_le_right _ _
    have h6 := hl.1
    generalize ((l.take i).flatMap fun v => addsSpec v.f0 v.f1).length = n at hlen ⊢
    omega
  have hvl : (l[i]).f1.length < 1000000 := Nat.lt_trans (hl.2 _ (List.getElem_mem hi)) (by decide)
  have hr3 := Kd.C_below hr2 hb
  have h9 := Nat.le_refl w.heap.size
  generalize hx : l[i] = x at hvl hc2 hr2 hr3 ⊢
  have hh := sync1 w.heap.size w.heap.size x.f0 A2 c2 x.f1 _ w w' h9 h
  have hh2 := hh hlen2
  have hh3 := hh2 hvl
  have hh4 := hh3 hc2
  have hh5 := hh4 hr3
  have e : ((l.take i).flatMap fun v => addsSpec v.f0 v.f1) ++ addsSpec x.f0 x.f1 = (l.take (i + 1)).flatMap fun v => addsSpec v.f0 v.f1 := by
    rw [List.take_add_one, List.getElem?_eq_getElem hi, hx, List.flatMap_append]
    simp
  rw [e] at hh5
  exact hh5
theorem sync_tail (stamp : Int) (w : World) : ReadsRow (fun x c => k34.K (w.alloc (.cells #[.int .i64 3, .int .i64 0, .int .i64 0, .int .i64 stamp, .int .i64 0, .int .i64 0, .int .i64 0, .int .i64 0, .int .i64 0, .int .i64 0, .int .i64 5, .int .i64 0, .int .i64 0, .int .i64 0, .int .i64 0, .int .i64 0, .int .i64 0, .int .i64 0, .int .i64 0, .int .i64 0] 34)) x c) k34.sz (w.alloc (.cells #[.int .i64 3, .int .i64 0, .int .i64 0, .int .i64 stamp, .int .i64 0, .int .i64 0, .int .i64 0, .int .i64 0, .int .i64 0, .int .i64 0, .int .i64 5, .int .i64 0, .int .i64 0, .int .i64 0, .int .i64 0, .int .i64 0, .int .i64 0, .int .i64 0, .int .i64 0, .int .i64 0] 34)) (some ⟨w.heap.size, 0, none⟩) 2 [flipMsg stamp, openMsg] := by
  have hr : Reps (fun x c => Kd.FK k34 (w.alloc (.cells #[.int .i64 3, .int .i64 0, .int .i64 0, .int .i64 stamp, .int .i64 0, .int .i64 0, .int .i64 0, .int .i64 0, .int .i64 0, .int .i64 0, .int .i64 5, .int .i64 0, .int .i64 0, .int .i64 0, .int .i64 0, .int .i64 0, .int .i64 0, .int .i64 0, .int .i64 0, .int .i64 0] 34)) (fun _ => True) x c) k34.sz [flipMsg stamp, openMsg] ([.int .i64 3, .int .i64 0, .int .i64 0, .int .i64 stamp, .int .i64 0, .int .i64 0, .int .i64 0, .int .i64 0, .int .i64 0, .int .i64 0, .int .i64 5, .int .i64 0, .int .i64 0, .int .i64 0, .int .i64 0, .int .i64 0, .int .i64 0, .int .i64 0, .int .i64 0, .int .i64 0] : List Value) :=
    ((Reps.none _ _).snoc (p := flipMsg stamp) (c := [.int .i64 3, .int .i64 0, .int .i64 0, .int .i64 stamp, .int .i64 0, .int .i64 0, .int .i64 0, .int .i64 0, .int .i64 0, .int .i64 0]) (fun W' _ => k34_mk W' (flipMsg stamp)) rfl).snoc (p := openMsg) (c := [.int .i64 5, .int .i64 0, .int .i64 0, .int .i64 0, .int .i64 0, .int .i64 0, .int .i64 0, .int .i64 0, .int .i64 0, .int .i64 0]) (fun W' _ => k34_mk W' openMsg) rfl
  exact Kd.F_now (F_row (d := k34) (ok := fun _ => True) (xs := [flipMsg stamp, openMsg]) trivial (heap_alloc_new w _) rfl hr (by show 2 ≤ 9223372036854775807; decide))
set_option maxHeartbeats 4000000 in
set_option maxRecDepth 100000 in
theorem plan_Sync.main (A : Option Addr) (c : Nat) (l : List S37) (stamp : Int) (w : World) (hr : Kd.C k37 w A l.length l) (hc : l.length ≤ c) (hl : l.length < 1000 ∧ ∀ v ∈ l, v.f1.length < 1000) :
    Calls Try.prog 14 #[.slice A l.length c, .int .i64 stamp] w fun e w' => ∃ v0_ : Value, e = .returned v0_ ∧ Kd.R k34 34 w' w.heap.size (fun _ => True) v0_ (syncSpec l stamp) ∧ Below w.heap.size w w' := by
  have HR := Aside0.mk hr
  have HC := Aside0.mk hc
  have HL := Aside0.mk hl
  clear hr hc hl
  obtain ⟨W, hW⟩ : ∃ W, W = w.alloc (.cells #[.slice none 0 0] 25) := ⟨_, rfl⟩
  have hI0 : SyncInv w.heap.size w.heap.size w (syncAcc l 0) W := by
    rw [hW]
    exact ⟨_, heap_alloc_new w _, Kd.R_nil _ _ _ _ _, below_alloc (Below.refl _ _) _⟩
  have HI0 := Aside0.mk hI0
  clear hI0
  go_enter Try.func14, Try.ntmps14
  go_wp2_with (first
    | (go_at_call 33; rw [← hW]; refine (doVer w.heap.size A c l w W (fun i w' => SyncInv w.heap.size w.heap.size w (syncAcc l i) w') HI0.out (fun i w' h => by obtain ⟨v, h1, h3, h4⟩ := h; exact h4) HR.out HC.out (fun i w' w'' h hb => h.stable (by obtain ⟨v, h1, h3, h4⟩ := h; exact h4.size) hb) (fun i w' A2 c2 hi h hc2 hr2 => sync_step l w w' A2 c2 i hi HL.out h hc2 hr2)).mono ?_; rintro e w9 ⟨rfl, hI9⟩; rw [show syncAcc l l.length = l.flatMap fun v => addsSpec v.f0 v.f1 by unfold syncAcc; rw [List.take_length]] at hI9; obtain ⟨fl, hfl⟩ : ∃ fl, (l.flatMap fun v => addsSpec v.f0 v.f1) = fl := ⟨_, rfl⟩; rw [hfl] at hI9; have HFL := Aside0.mk hfl; clear hfl; obtain ⟨v, h1, h3, h4⟩ := hI9; obtain ⟨A9, c9, rfl⟩ := Kd.R_slice h3; obtain ⟨kb, qb⟩ := cell1 h1; have H3 := Aside0.mk h3; have H4 := Aside0.mk h4; clear h1 h3 h4 qb)
    | ((with_reducible refine gate_builtin (b := .append) (xs := #[.tmp 9, .tmp 13]) rfl ?_); refine Kd.R_append_rows k34 (w0 := w) w.heap.size rfl (.tmp 9) (.tmp 13) 25 34 _ 80 rfl Try.underlying25 info34 rfl (by decide) (by decide) (.slice A9 fl.length c9) fl [flipMsg stamp, openMsg] (some ⟨w9.heap.size, 0, none⟩) 2 2 (fun _ => True) (fun _ => False) rfl rfl (Kd.R_alloc H3.out _) (sync_tail stamp w9) (fun x cs hk => by rw [k34_open hk]; exact k34_mkM _ _ _ x) (fun _ h => h.elim) (fun _ _ => trivial) (below_alloc H4.out _) (by rw [alloc_size_]; have := H4.out.size; omega) (by have h1 := sync_len l HL.out.2; rw [HFL.out] at h1; have h2 := HL.out.1; omega) ?_; intro v2 w3 ho2 hb2 hg2 hat2; obtain ⟨A3, c3, rfl⟩ := Kd.R_slice ho2; have HO2 := Aside0.mk ho2; have HB2 := Aside0.mk hb2; clear ho2 hb2 hg2 hat2))
  go_ret
  have e : syncSpec l stamp = fl ++ [flipMsg stamp, openMsg] := by unfold syncSpec; rw [HFL.out]
  rw [e]
  exact ⟨_, rfl, (by have h9 := HO2.out; rw [List.length_append] at h9; exact h9), HB2.out⟩

def plan_Sync.f (l0 : List (S37)) (a1 : Int) : Option (List (S34)) := if l0.length < 1000 ∧ (∀ v ∈ l0, v.f1.length < 1000) then some (syncSpec l0 a1) else none
set_option maxHeartbeats 8000000 in
set_option maxRecDepth 100000 in
theorem plan_Sync.calls (A0 : Option Addr) (c0 : Nat) (l0 : List (S37)) (a1 : Int) (r : List (S34)) (w : World) (hr0 : Kd.C k37 w A0 l0.length l0) (hc0 : l0.length ≤ c0) (h : plan_Sync.f l0 a1 = some r) :
    Calls Try.prog 14 #[.slice A0 l0.length c0, .int .i64 a1] w fun e w' => ∃ v0_ : Value, e = .returned (v0_) ∧ Kd.R k34 34 w' w.heap.size (fun _ => True) v0_ r ∧ Below w.heap.size w w' := by
  unfold plan_Sync.f at h
  split at h
  · obtain rfl := Option.some.inj h
    exact plan_Sync.main A0 c0 l0 a1 w hr0 hc0 ‹_›
  · cases h

end Go.Proofs.Ytibkmiffibacbaa.Print
