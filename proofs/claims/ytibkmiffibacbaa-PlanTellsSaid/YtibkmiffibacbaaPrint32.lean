/- A text that a program of this session printed out of the translation: checked by Lean alone. -/
import Derived.Test.YtibkmiffibacbaaPrint0
import Derived.Test.YtibkmiffibacbaaPrintH
namespace Go.Proofs.Ytibkmiffibacbaa.Print
open Go.RowKit Go.Proofs.YtibkmiffibacbaaW.PrintWords Go.Proofs.YtibkmiffibacbaaW.PrintLast Go.Proofs.YtibkmiffibacbaaW.PrintMore
attribute [local go_sem] max2_int min2_int max_two min_two max_three min_three max_four min_four   -- for this text's walks alone
set_option linter.unusedVariables false
set_option linter.unusedSimpArgs false

/-! ### plan_Adds: function 31 -/
def addMsg (tag : Int) (r : S32) : S34 := ⟨2, 0, 0, tag, r⟩
def addsSpec (tag : Int) (l : List (S32)) : List (S34) := l.map (addMsg tag)
def flipMsg (t : Int) : S34 := ⟨3, 0, 0, t, z32⟩
def openMsg : S34 := ⟨5, 0, 0, 0, z32⟩
def syncSpec (l : List (S37)) (t : Int) : List (S34) := (l.flatMap fun v => addsSpec v.f0 v.f1) ++ [flipMsg t, openMsg]
set_option maxHeartbeats 4000000 in
set_option maxRecDepth 100000 in
theorem doRule (b tg : Nat) (A : Option Addr) (c : Nat) (l : List S32) (w00 w : World) (I : Nat → World → Prop) (h0 : I 0 w) (hB : ∀ i w', I i w' → Below w00.heap.size w00 w')
    (hC : Kd.C k32 w00 A l.length l) (hc : l.length ≤ c) (hstable : ∀ i w' w'', I i w' → Below w'.heap.size w' w'' → I i w'')
    (hstep : ∀ (i : Nat) (w' : World) (hi : i < l.length), I i w' → Calls Try.prog 40 #[.agg #[.int .i64 (l[i]).f0.f0, .int .i64 (l[i]).f0.f1, .int .i64 (l[i]).f1, .int .i64 (l[i]).f2, .int .i64 (l[i]).f3.f0, .int .i64 (l[i]).f3.f1], .pointer (some ⟨b, 0, none⟩), .pointer (some ⟨tg, 0, none⟩)] w' fun e w'' => e = .returned (.tuple #[]) ∧ I (i + 1) w'') :
    Calls Try.prog 39 #[.slice A l.length c, .func (.func 40) #[] #[.pointer (some ⟨b, 0, none⟩), .pointer (some ⟨tg, 0, none⟩)]] w fun e w' => e = .returned (.tuple #[]) ∧ I l.length w' := by
  have hlm : l.length ≤ 9223372036854775807 := hC.2.1
  have H0 := Aside0.mk h0
  have HB := Aside0.mk hB
  have HC := Aside0.mk hC
  have HL := Aside0.mk hc
  have HST := Aside0.mk hstable
  have HS := Aside0.mk hstep
  have HM := Aside0.mk hlm
  clear h0 hB hC hc hstable hstep hlm
  go_enter Try.func39, Try.ntmps39
  go_wp2
  go_loopg [8] l.length (fun kq v8 w' => ∃ (i : Nat), v8 = .int .i64 (i : Int) ∧ Aside0 (i + kq = l.length) ∧ Aside0 (I i w'))
  case atStart => exact ⟨0, by first | rfl | (simp; done), ⟨Nat.zero_add _⟩, H0⟩
  case round =>
    obtain ⟨i, rfl, HK, HI⟩ := hrel
    cases gk with
    | zero =>
      have hlt : ¬ ((i : Int) < (l.length : Int)) := by have := HK.out; omega
      have hil : i = l.length := by have := HK.out; omega
      have hlt2 : ¬ (i < l.length) := by omega
      have HE := Aside0.mk (show I l.length wr from hil ▸ HI.out)
      clear hil
      go_wp2_with fail
      go_end0
      exact ⟨rfl, HE.out⟩
    | succ k1 =>
      have hlt : i < l.length := by have := HK.out; omega
      have hlt1 : (i : Int) < (l.length : Int) := by omega
      have p0 : (0 : Int) ≤ (i : Int) := by omega
      obtain ⟨ad, eA, e0, e1, e2, e3, e4, e5⟩ := at_T32 HC.out (i : Int) p0 hlt1
      subst eA
      rw [Int.toNat_natCast] at e0 e1 e2 e3 e4 e5
      have hx : rd_T32 l (i : Int) = l[i] := by simp [rd_T32, hlt]
      rw [hx] at e0 e1 e2 e3 e4 e5
      have hbw := HB.out i wr HI.out
      replace e0 := (hbw.cell (World.block_lt_of_cell? _ _ e0)).trans e0
      replace e1 := (hbw.cell (World.block_lt_of_cell? _ _ e1)).trans e1
      replace e2 := (hbw.cell (World.block_lt_of_cell? _ _ e2)).trans e2
      replace e3 := (hbw.cell (World.block_lt_of_cell? _ _ e3)).trans e3
      replace e4 := (hbw.cell (World.block_lt_of_cell? _ _ e4)).trans e4
      replace e5 := (hbw.cell (World.block_lt_of_cell? _ _ e5)).trans e5
      have HX := Aside0.mk hx
      have hw : IntKind.i64.wrap ((i : Int) + 1) = ((i + 1 : Nat) : Int) := by have := HM.out; rw [IntKind.wrap_i64]; omega
      clear hx hbw
      go_wp2_with (first
        | ((with_reducible refine gate_dst (N := 5) rfl ?_); refine box_event ?hg (N := 5) ?hd (cs := #[.int .i64 0, .int .i64 0, .int .i64 0, .int .i64 0, .int .i64 0, .int .i64 0]) (t := 32) ?hr ?_; (case hd => rfl); (case hg => rfl); (case hr => first | (go_simp; done) | (go_simp; rfl)); intro gb hgb w7 hbox hb7; have z0 : w7.cell? ⟨gb, 0, none⟩ = some _ := (cell_of_row _ _ _ _ _ _ hbox).trans rfl; have y0 : w7.frozen? ⟨gb, 0, none⟩ = false := frozen_of_row _ _ _ _ _ hbox; have z1 : w7.cell? ⟨gb, 1, none⟩ = some _ := (cell_of_row _ _ _ _ _ _ hbox).trans rfl; have y1 : w7.frozen? ⟨gb, 1, none⟩ = false := frozen_of_row _ _ _ _ _ hbox; have z2 : w7.cell? ⟨gb, 2, none⟩ = some _ := (cell_of_row _ _ _ _ _ _ hbox).trans rfl; have y2 : w7.frozen? ⟨gb, 2, none⟩ = false := frozen_of_row _ _ _ _ _ hbox; have z3 : w7.cell? ⟨gb, 3, none⟩ = some _ := (cell_of_row _ _ _ _ _ _ hbox).trans rfl; have y3 : w7.frozen? ⟨gb, 3, none⟩ = false := frozen_of_row _ _ _ _ _ hbox; have z4 : w7.cell? ⟨gb, 4, none⟩ = some _ := (cell_of_row _ _ _ _ _ _ hbox).trans rfl; have y4 : w7.frozen? ⟨gb, 4, none⟩ = false := frozen_of_row _ _ _ _ _ hbox; have z5 : w7.cell? ⟨gb, 5, none⟩ = some _ := (cell_of_row _ _ _ _ _ _ hbox).trans rfl; have y5 : w7.frozen? ⟨gb, 5, none⟩ = false := frozen_of_row _ _ _ _ _ hbox; have HGB := Aside0.mk hgb; have HB7 := Aside0.mk hb7; clear hbox hgb hb7)
        | (go_at_call 40; refine (HS.out i _ hlt (HST.out i wr _ HI.out (below_setCells_ (g := gb) (Nat.le_of_eq HGB.out.symm) 0 [_, _, _, _, _, _] HB7.out))).mono ?_; rintro e w9 ⟨rfl, hI9⟩; have HI9 := Aside0.mk hI9; clear hI9))
      go_roundg k1
      case measure => omega
      case rel => exact ⟨i + 1, by first | rfl | (rw [hw]), ⟨by have := HK.out; omega⟩, HI9⟩
def AddsInv (B b tg : Nat) (tag : Int) (w00 : World) (xs : List S34) (w : World) : Prop :=
  ∃ v : Value, w.heap[b]? = some (.cells #[v] 25 (0, 0)) ∧ w.heap[tg]? = some (.cells #[.int .i64 tag] 3 (0, 0)) ∧ Kd.R k34 34 w B (fun _ => True) v xs ∧ Below B w00 w
theorem AddsInv.stable {B b tg : Nat} {tag : Int} {w00 w w' : World} {xs : List S34} (h : AddsInv B b tg tag w00 xs w) (hB : B ≤ w.heap.size) (hb : Below w.heap.size w w') : AddsInv B b tg tag w00 xs w' := by
  obtain ⟨v, h1, h2, h3, h4⟩ := h
  exact ⟨v, (hb.block b (Array.getElem?_eq_some_iff.1 h1).1).trans h1, (hb.block tg (Array.getElem?_eq_some_iff.1 h2).1).trans h2, Kd.R_below h3 hb, below_then h4 hB hb⟩
set_option maxHeartbeats 4000000 in
set_option maxRecDepth 100000 in
theorem adds1 (B b tg : Nat) (tag : Int) (r : S32) (xs : List S34) (w00 w : World) (hB : B ≤ b) (hbt : b ≠ tg) (hI : AddsInv B b tg tag w00 xs w) (hl : xs.length < 1000000000) :
    Calls Try.prog 40 #[.agg #[.int .i64 r.f0.f0, .int .i64 r.f0.f1, .int .i64 r.f1, .int .i64 r.f2, .int .i64 r.f3.f0, .int .i64 r.f3.f1], .pointer (some ⟨b, 0, none⟩), .pointer (some ⟨tg, 0, none⟩)] w fun e w' => e = .returned (.tuple #[]) ∧ AddsInv B b tg tag w00 (xs ++ [addMsg tag r]) w' := by
  obtain ⟨v, hb, htg, hR, hBl⟩ := hI
  obtain ⟨Av, cv, rfl⟩ := Kd.R_slice hR
  obtain ⟨Z, hZ⟩ : ∃ Z : Obj, Z = Obj.cells #[.int .i64 r.f0.f0, .int .i64 r.f0.f1, .int .i64 r.f1, .int .i64 r.f2, .int .i64 r.f3.f0, .int .i64 r.f3.f1] 32 := ⟨_, rfl⟩
  have hba := below_alloc (Below.refl w.heap.size w) Z
  have hbl : b < w.heap.size := (Array.getElem?_eq_some_iff.1 hb).1
  have htl : tg < w.heap.size := (Array.getElem?_eq_some_iff.1 htg).1
  obtain ⟨kb, qb⟩ := cell1 ((hba.block b hbl).trans hb)
  obtain ⟨kt, qt⟩ := cell1 ((hba.block tg htl).trans htg)
  have HR := Aside0.mk (Kd.R_below hR hba)
  have HBA := Aside0.mk (below_then hBl (by omega) hba)
  have HBB := Aside0.mk ((hba.block b hbl).trans hb)
  have HTG := Aside0.mk ((hba.block tg htl).trans htg)
  have HX := Aside0.mk (⟨hB, hbt, hl, hbl, htl⟩ : B ≤ b ∧ b ≠ tg ∧ xs.length < 1000000000 ∧ b < w.heap.size ∧ tg < w.heap.size)
  subst hZ
  clear hb htg hR hBl hba hB hbt hl hbl htl
  go_enter Try.func40, Try.ntmps40
  go_wp2_with (first
    | ((with_reducible refine gate_builtin (b := .append) (xs := #[.tmp 4, .tmp 8]) rfl ?_); at_builtin; refine Kd.R_append k34 (w0 := w00) B rfl (.tmp 4) (.tmp 8) 25 34 _ 80 rfl Try.underlying25 info34 rfl (by decide) (by decide) (.slice Av xs.length cv) xs (addMsg tag r) [.int .i64 2, .int .i64 0, .int .i64 0, .int .i64 tag, .int .i64 r.f0.f0, .int .i64 r.f0.f1, .int .i64 r.f1, .int .i64 r.f2, .int .i64 r.f3.f0, .int .i64 r.f3.f1] (fun _ => True) (fun _ => False) rfl (by simp [Act.eval]) (k34_mkM _ _ _ (addMsg tag r)) (fun _ h => h.elim) (fun _ _ => trivial) HR.out HBA.out ?_ ?_ ?_; (have h1 := HX.out; rw [alloc_size_]; omega); (have h1 := HX.out; omega); intro v2 w2 ho2 hb2 hg2 hat2; obtain ⟨A2, c2, rfl⟩ := Kd.R_slice ho2; have hbb := (hg2.block b (by rw [alloc_size_]; have h1 := HX.out; omega) (Kd.R_ne HR.out HBB.out (by decide))).trans HBB.out; have htt := (hg2.block tg (by rw [alloc_size_]; have h1 := HX.out; omega) (Kd.R_ne HR.out HTG.out (by decide))).trans HTG.out; obtain ⟨kb2, qb2⟩ := cell1 hbb; have HO2 := Aside0.mk ho2; have HB2 := Aside0.mk hb2; have HBB2 := Aside0.mk hbb; have HTG2 := Aside0.mk htt; clear ho2 hb2 hg2 hat2 hbb htt))
  go_end0
  obtain ⟨h1, h2, h3, h4, h5⟩ := HX.out
  have hset : ∀ {w : World} {g : Nat} {a : Value} {t : TypeId}, w.heap[g]? = some (.cells #[a] t (0, 0)) → ∀ u : Value, (w.setCell ⟨g, 0, none⟩ u).heap[g]? = some (.cells #[u] t (0, 0)) := fun h u => set1 h u
  exact ⟨rfl, _, hset HBB2.out _, (Below.heap_setCell _ _ _ _ (Ne.symm h2)).trans HTG2.out, (by have h9 := Kd.R_set HO2.out HBB2.out (by decide) 0 (.slice A2 (xs ++ [addMsg tag r]).length c2); rw [List.length_append, List.length_singleton] at h9; exact h9), below_setCell_ h1 _ _ HB2.out⟩
theorem adds_step (tag : Int) (l : List S32) (w w' : World) (i : Nat) (hi : i < l.length) (hl : l.length < 1000000) (h : AddsInv w.heap.size (w.heap.size + 1) w.heap.size tag w (addsSpec tag (l.take i)) w') :
    Calls Try.prog 40 #[.agg #[.int .i64 (l[i]).f0.f0, .int .i64 (l[i]).f0.f1, .int .i64 (l[i]).f1, .int .i64 (l[i]).f2, .int .i64 (l[i]).f3.f0, .int .i64 (l[i]).f3.f1], .pointer (some ⟨w.heap.size + 1, 0, none⟩), .pointer (some ⟨w.heap.size, 0, none⟩)] w' fun e w'' => e = .returned (.tuple #[]) ∧ AddsInv w.heap.size (w.heap.size + 1) w.heap.size tag w (addsSpec tag (l.take (i + 1))) w'' := by
  have hh := adds1 w.heap.size (w.heap.size + 1) w.heap.size tag l[i] (addsSpec tag (l.take i)) w w' (by omega) (by omega) h (by unfold addsSpec; rw [List.length_map, List.length_take]; omega)
  have e : addsSpec tag (l.take i) ++ [addMsg tag l[i]] = addsSpec tag (l.take (i + 1)) := by
    unfold addsSpec
    rw [List.take_add_one, List.getElem?_eq_getElem hi, List.map_append]
    rfl
  rw [e] at hh
  exact hh
set_option maxHeartbeats 4000000 in
set_option maxRecDepth 100000 in
theorem plan_Adds.main (tag : Int) (A : Option Addr) (c : Nat) (l : List S32) (w : World) (hr : Kd.C k32 w A l.length l) (hc : l.length ≤ c) (hl : l.length < 1000000) :
    Calls Try.prog 31 #[.int .i64 tag, .slice A l.length c] w fun e w' => ∃ v0_ : Value, e = .returned v0_ ∧ Kd.R k34 34 w' w.heap.size (fun _ => True) v0_ (addsSpec tag l) ∧ Below w.heap.size w w' := by
  have HR := Aside0.mk hr
  have HC := Aside0.mk hc
  have HL := Aside0.mk hl
  clear hr hc hl
  obtain ⟨W, hW⟩ : ∃ W, W = (w.alloc (.cells #[.int .i64 tag] 3)).alloc (.cells #[.slice none 0 0] 25) := ⟨_, rfl⟩
  have hI0 : AddsInv w.heap.size (w.heap.size + 1) w.heap.size tag w (addsSpec tag (l.take 0)) W := by
    rw [hW]
    refine ⟨_, ?_, ?_, Kd.R_nil _ _ _ _ _, below_alloc (below_alloc (Below.refl _ _) _) _⟩
    · have := heap_alloc_new (w.alloc (.cells #[.int .i64 tag] 3)) (.cells #[.slice none 0 0] 25)
      rw [alloc_size_] at this
      exact this
    · exact ((below_alloc (Below.refl (w.alloc (.cells #[.int .i64 tag] 3)).heap.size _) (.cells #[.slice none 0 0] 25)).block w.heap.size (by rw [alloc_size_]; omega)).trans (heap_alloc_new w _)
  have HI0 := Aside0.mk hI0
  clear hI0
  go_enter Try.func31, Try.ntmps31
  go_wp2_with (go_at_call 39; rw [← hW]; refine (doRule (w.heap.size + 1) w.heap.size A c l w W (fun i w' => AddsInv w.heap.size (w.heap.size + 1) w.heap.size tag w (addsSpec tag (l.take i)) w') HI0.out (fun i w' h => by obtain ⟨v, h1, h2, h3, h4⟩ := h; exact h4) HR.out HC.out (fun i w' w'' h hb => h.stable (by obtain ⟨v, h1, h2, h3, h4⟩ := h; exact h4.size) hb) (fun i w' hi h => adds_step tag l w w' i hi HL.out h)).mono ?_; rintro e w9 ⟨rfl, hI9⟩; rw [List.take_length] at hI9; obtain ⟨v, h1, h2, h3, h4⟩ := hI9; obtain ⟨A9, c9, rfl⟩ := Kd.R_slice h3; obtain ⟨kb, qb⟩ := cell1 h1; have H3 := Aside0.mk h3; have H4 := Aside0.mk h4; clear h1 h2 h3 h4 qb)
  go_ret
  exact ⟨_, rfl, H3.out, H4.out⟩

def plan_Adds.f (a0 : Int) (l1 : List (S32)) : Option (List (S34)) := if l1.length < 1000000 then some (addsSpec a0 l1) else none
set_option maxHeartbeats 8000000 in
set_option maxRecDepth 100000 in
theorem plan_Adds.calls (a0 : Int) (A1 : Option Addr) (c1 : Nat) (l1 : List (S32)) (r : List (S34)) (w : World) (hr1 : Kd.C k32 w A1 l1.length l1) (hc1 : l1.length ≤ c1) (h : plan_Adds.f a0 l1 = some r) :
    Calls Try.prog 31 #[.int .i64 a0, .slice A1 l1.length c1] w fun e w' => ∃ v0_ : Value, e = .returned (v0_) ∧ Kd.R k34 34 w' w.heap.size (fun _ => True) v0_ r ∧ Below w.heap.size w w' := by
  unfold plan_Adds.f at h
  split at h
  · obtain rfl := Option.some.inj h
    exact plan_Adds.main a0 A1 c1 l1 w hr1 hc1 ‹_›
  · cases h

end Go.Proofs.Ytibkmiffibacbaa.Print
