/- A text that a program of this session printed out of the translation: checked by Lean alone. -/
import Derived.Test.YtibkmiffibacbaaPrint0
import Derived.Test.YtibkmiffibacbaaPrint8
import Derived.Test.YtibkmiffibacbaaPrintH
namespace Go.Proofs.Ytibkmiffibacbaa.Print
open Go.RowKit Go.Proofs.YtibkmiffibacbaaW.PrintWords Go.Proofs.YtibkmiffibacbaaW.PrintLast Go.Proofs.YtibkmiffibacbaaW.PrintMore
attribute [local go_sem] max2_int min2_int max_two min_two max_three min_three max_four min_four   -- for this text's walks alone
set_option linter.unusedVariables false
set_option linter.unusedSimpArgs false

/-! ### sess_Done: function 18 -/
set_option maxHeartbeats 4000000 in
set_option maxRecDepth 100000 in
theorem done1 (m : S34) (q : Nat) (seq : Int) (w : World) (hq : w.heap[q]? = some (.cells #[.int .i64 seq] 3 (0, 0))) :
    Calls Try.prog 37 #[.agg #[.int .i64 m.f0, .int .i64 m.f1, .int .i64 m.f2, .int .i64 m.f3, .int .i64 m.f4.f0.f0, .int .i64 m.f4.f0.f1, .int .i64 m.f4.f1, .int .i64 m.f4.f2, .int .i64 m.f4.f3.f0, .int .i64 m.f4.f3.f1], .pointer (some ⟨q, 0, none⟩)] w fun e w' => e = .returned (.bool (decide (m.f2 ≤ seq))) ∧ Below w.heap.size w w' := by
  have hql : q < w.heap.size := (Array.getElem?_eq_some_iff.1 hq).1
  have hba := below_alloc (Below.refl w.heap.size w) (Obj.cells #[.int .i64 m.f0, .int .i64 m.f1, .int .i64 m.f2, .int .i64 m.f3, .int .i64 m.f4.f0.f0, .int .i64 m.f4.f0.f1, .int .i64 m.f4.f1, .int .i64 m.f4.f2, .int .i64 m.f4.f3.f0, .int .i64 m.f4.f3.f1] 34)
  obtain ⟨kq, qq⟩ := cell1 ((hba.block q hql).trans hq)
  have HBA := Aside0.mk hba
  clear hq hql hba
  go_enter Try.func37, Try.ntmps37
  go_wp2_with fail
  go_ret
  exact ⟨rfl, HBA.out⟩
def MsgV (m : S34) : Value := .agg #[.int .i64 m.f0, .int .i64 m.f1, .int .i64 m.f2, .int .i64 m.f3, .int .i64 m.f4.f0.f0, .int .i64 m.f4.f0.f1, .int .i64 m.f4.f1, .int .i64 m.f4.f2, .int .i64 m.f4.f3.f0, .int .i64 m.f4.f3.f1]
def IdxPost (l : List S34) (seq : Int) (e : Ending) : Prop :=
  (∃ i : Nat, ∃ hi : i < l.length, e = .returned (.int .i64 (i : Int)) ∧ (∀ x ∈ l.take i, seq < x.f2) ∧ (l[i]).f2 ≤ seq) ∨ (e = .returned (.int .i64 (-1)) ∧ ∀ x ∈ l, seq < x.f2)
set_option maxHeartbeats 4000000 in
set_option maxRecDepth 100000 in
theorem idx_main (A : Option Addr) (c : Nat) (l : List S34) (q : Nat) (seq : Int) (w : World) (hr : Kd.C k34 w A l.length l) (hc : l.length ≤ c) (hq : w.heap[q]? = some (.cells #[.int .i64 seq] 3 (0, 0))) :
    Calls Try.prog 41 #[.slice A l.length c, .func (.func 37) #[] #[.pointer (some ⟨q, 0, none⟩)]] w fun e w' => IdxPost l seq e ∧ Below w.heap.size w w' := by
  have hlm : l.length ≤ 9223372036854775807 := hr.2.1
  have hql : q < w.heap.size := (Array.getElem?_eq_some_iff.1 hq).1
  have HR := Aside0.mk hr
  have HC := Aside0.mk hc
  have HQ := Aside0.mk hq
  have HQL := Aside0.mk hql
  have HM := Aside0.mk hlm
  have HB0 := Aside0.mk (Below.refl w.heap.size w)
  have HN0 := Aside0.mk (show ∀ x ∈ l.take 0, seq < x.f2 by simp)
  clear hr hc hq hlm hql
  go_enter Try.func41, Try.ntmps41
  go_wp2
  go_loopg [8] l.length (fun kq v8 w' => ∃ (i : Nat), v8 = .int .i64 (i : Int) ∧ Aside0 (i + kq = l.length) ∧ Aside0 (Below w.heap.size w w') ∧ Aside0 (∀ x ∈ l.take i, seq < x.f2))
  case atStart => exact ⟨0, by first | rfl | (simp; done), ⟨Nat.zero_add _⟩, HB0, HN0⟩
  case round =>
    clear HB0 HN0
    obtain ⟨i, rfl, HK, HB, HN⟩ := hrel
    cases gk with
    | zero =>
      have hlt : ¬ ((i : Int) < (l.length : Int)) := by have := HK.out; omega
      have hlt2 : ¬ (i < l.length) := by omega
      have hn := HN.out
      rw [List.take_of_length_le (by omega)] at hn
      have HNN := Aside0.mk hn
      clear hn
      go_wp2_with fail
      go_ret
      exact ⟨.inr ⟨rfl, HNN.out⟩, HB.out⟩
    | succ k1 =>
      have hlt : i < l.length := by have := HK.out; omega
      have hlt1 : (i : Int) < (l.length : Int) := by omega
      have p0 : (0 : Int) ≤ (i : Int) := by omega
      obtain ⟨ad, eA, e0, e1, e2, e3, e4, e5, e6, e7, e8, e9⟩ := at_T34 (Kd.C_below HR.out HB.out) (i : Int) p0 hlt1
      subst eA
      rw [Int.toNat_natCast] at e0 e1 e2 e3 e4 e5 e6 e7 e8 e9
      have hx : rd_T34 l (i : Int) = l[i] := by simp [rd_T34, hlt]
      rw [hx] at e0 e1 e2 e3 e4 e5 e6 e7 e8 e9
      have HQ2 := Aside0.mk ((HB.out.block q HQL.out).trans HQ.out)
      have hw : IntKind.i64.wrap ((i : Int) + 1) = ((i + 1 : Nat) : Int) := by have := HM.out; rw [IntKind.wrap_i64]; omega
      clear hx
      by_cases hle : (l[i]).f2 ≤ seq
      · have hd : decide ((l[i]).f2 ≤ seq) = true := decide_eq_true hle
        have HLE := Aside0.mk hle
        clear hle
        go_wp2_with (go_at_call 37; refine (done1 l[i] q seq _ HQ2.out).mono ?_; rintro e w9 ⟨rfl, hb9⟩; rw [hd]; have HB9 := Aside0.mk (below_step HB.out hb9); clear hb9)
        go_ret
        exact ⟨.inl ⟨i, hlt, rfl, HN.out, HLE.out⟩, HB9.out⟩
      · have hd : decide ((l[i]).f2 ≤ seq) = false := decide_eq_false hle
        have hn : ∀ x ∈ l.take (i + 1), seq < x.f2 := by
          intro x hx
          rw [List.take_add_one, List.getElem?_eq_getElem hlt] at hx
          rcases List.mem_append.1 hx with h | h
          · exact HN.out x h
          · simp at h
            rw [h]
            omega
        have HN2 := Aside0.mk hn
        clear hle hn
        go_wp2_with (go_at_call 37; refine (done1 l[i] q seq _ HQ2.out).mono ?_; rintro e w9 ⟨rfl, hb9⟩; rw [hd]; have HB9 := Aside0.mk (below_step HB.out hb9); clear hb9)
        go_roundg k1
        case measure => omega
        case rel => exact ⟨i + 1, by first | rfl | (rw [hw]), ⟨by have := HK.out; omega⟩, HB9, HN2⟩
theorem setAll {w : World} {g : Nat} {t : TypeId} {cs cs' : Array Value} (h : w.heap[g]? = some (.cells cs t (0, 0))) (hs : cs'.size = cs.size) : (w.setCells g 0 cs'.toList).heap[g]? = some (.cells cs' t (0, 0)) := by
  obtain ⟨cur, h1, h2, h3⟩ := setCells_row cs'.toList 0 w _ h (by rw [Array.length_toList (xs := cs')]; omega)
  have : cur = cs' := by
    apply Array.ext'
    have h4 : cs.toList.length = cs.size := Array.length_toList
    have h5 : cs'.toList.length = cs'.size := Array.length_toList
    rw [h3, List.take_zero, List.nil_append, List.drop_of_length_le (by omega), List.append_nil]
  rw [this] at h1
  exact h1
theorem msg_rowF {w : World} {B g n cap : Nat} {ok : Nat → Prop} {ys : List S34} (h : Kd.R k34 34 w B ok (.slice (some ⟨g, 0, none⟩) n cap) ys) (hn : n = ys.length) (hm : ys.length ≤ 9223372036854775807) : Kd.F k34 w (fun k_ => k_ = g) (some ⟨g, 0, none⟩) ys.length ys := by
  obtain ⟨_, inner, ⟨hlen, hh⟩, hreps⟩ := h
  rcases hh with ⟨h1, _⟩ | ⟨g', cap', cur, h1, h2, h3, h4, h5, h6, h7⟩
  · injection h1 with h1; cases h1
  · injection h1 with h1 h8 h9
    injection h1 with h1
    injection h1 with h1
    subst h1
    exact F_row (d := k34) (ok := fun k_ => k_ = g) rfl h3 h7 (hreps.imp_ (fun x c hM => by have h9 := k34_open (k34.K_of_M hM); subst h9; exact fun W' _ => k34_mk W' x)) hm
theorem zeroMsg : ∀ w, (zeroValue 34).run Try.prog w = .ok (.agg #[.int .i64 0, .int .i64 0, .int .i64 0, .int .i64 0, .int .i64 0, .int .i64 0, .int .i64 0, .int .i64 0, .int .i64 0, .int .i64 0]) w :=
  (zero_of_info (n := 10) (by kernel_rfl : (Try.prog.info? 34).map (fun i => (i.zero, i.size)) = some (some (.agg #[.int .i64 0, .int .i64 0, .int .i64 0, .int .i64 0, .int .i64 0, .int .i64 0, .int .i64 0, .int .i64 0, .int .i64 0, .int .i64 0]), 10))).1
def keepL (l : List S34) (seq : Int) : List S34 := l.filter fun m => decide (seq < m.f2)
def DelRel (g cap : Nat) (l : List S34) (q : Nat) (seq : Int) (B : Nat) (w00 w : World) (i j : Nat) (w' : World) : Prop :=
  ∃ ys : List S34, i < j ∧ j ≤ l.length ∧ ys.length = l.length ∧ Kd.R k34 34 w' B (fun _ => True) (.slice (some ⟨g, 0, none⟩) l.length cap) ys ∧ ys.take i = keepL (l.take j) seq ∧ i ≤ l.length ∧ ys.drop j = l.drop j ∧ w'.heap[q]? = some (.cells #[.int .i64 seq] 3 (0, 0)) ∧ Below B w00 w' ∧ (∀ k, k < w.heap.size → k ≠ g → w'.heap[k]? = w.heap[k]?) ∧ w.heap.size ≤ w'.heap.size
set_option maxHeartbeats 4000000 in
set_option maxRecDepth 100000 in
theorem delf_main (g cap : Nat) (l : List S34) (q : Nat) (seq : Int) (B : Nat) (w00 w : World) (hO : Kd.R k34 34 w B (fun _ => True) (.slice (some ⟨g, 0, none⟩) l.length cap) l) (hq : w.heap[q]? = some (.cells #[.int .i64 seq] 3 (0, 0))) (hB : Below B w00 w) (hBw : B ≤ w.heap.size) :
    Calls Try.prog 36 #[.slice (some ⟨g, 0, none⟩) l.length cap, .func (.func 37) #[] #[.pointer (some ⟨q, 0, none⟩)]] w fun e w' => e = .returned (.slice (some ⟨g, 0, none⟩) (keepL l seq).length cap) ∧ (keepL l seq).length ≤ cap ∧ Kd.F k34 w' (fun k_ => k_ = g) (some ⟨g, 0, none⟩) (keepL l seq).length (keepL l seq) ∧ Below B w00 w' ∧ (∀ k, k < w.heap.size → k ≠ g → w'.heap[k]? = w.heap[k]?) := by
  have hrd := Kd.R_reads' hO
  have hlm : l.length ≤ 9223372036854775807 := hrd.2.2.2.1
  have hcap := hrd.2.1
  have HO := Aside0.mk hO
  have HQ := Aside0.mk hq
  have HB := Aside0.mk hB
  have HBW := Aside0.mk hBw
  have HM := Aside0.mk hlm
  have HCAP := Aside0.mk hcap
  clear hrd hO hq hB hBw hlm hcap
  go_enter Try.func36, Try.ntmps36
  have hidx := idx_main (some ⟨g, 0, none⟩) cap l q seq w (Kd.R_reads' HO.out).2.2 HCAP.out HQ.out
  go_wp2_with (go_at_call 41; refine hidx.mono ?_; rintro e w1 ⟨hix, hb1⟩; have HIX := Aside0.mk hix; have HB1 := Aside0.mk hb1; clear hix hb1 hidx; rcases HIX.out with ⟨i, hi, rfl, hn, hle⟩ | ⟨rfl, hn⟩)
  · have hn' := Aside0.mk hn
    have hle' := Aside0.mk hle
    have hi' := Aside0.mk hi
    have hrel0 : DelRel g cap l q seq B w00 w i (i + 1) w1 := by
      have hB1 := HB1.out
      have hql : q < w.heap.size := (Array.getElem?_eq_some_iff.1 HQ.out).1
      refine ⟨l, Nat.lt_succ_self _, hi, rfl, Kd.R_below HO.out hB1, ?_, Nat.le_of_lt hi, rfl, (hB1.block q hql).trans HQ.out, below_then HB.out HBW.out hB1, fun k hk _ => hB1.block k hk, hB1.size⟩
      unfold keepL
      rw [List.take_add_one, List.getElem?_eq_getElem hi, List.filter_append, List.filter_eq_self.2 (fun x hx => decide_eq_true (hn x hx))]
      have : ¬ seq < (l[i]).f2 := by omega
      simp [this]
    have HREL := Aside0.mk hrel0
    have hw : IntKind.i64.wrap ((i : Int) + 1) = ((i + 1 : Nat) : Int) := by have := HM.out; rw [IntKind.wrap_i64]; omega
    clear hn hle hrel0 HIX
    try rw [hw]
    go_loopg [5, 6] (l.length - (i + 1)) (fun kq v5 v6 w' => ∃ (i j : Nat), v5 = .int .i64 (i : Int) ∧ v6 = .int .i64 (j : Int) ∧ Aside0 (j + kq = l.length) ∧ Aside0 (DelRel g cap l q seq B w00 w i j w'))
    case atStart => exact ⟨i, i + 1, by first | rfl | (simp; done), by first | rfl | exact congrArg (Value.int .i64) (wrap_id (x := (i : Int) + 1) (by omega) (by have h1 := hi'.out; have h2 := HM.out; omega)), ⟨by have := hi'.out; omega⟩, HREL⟩
    case round =>
      clear HREL hn' hle' hi' hw
      obtain ⟨i, j, rfl, rfl, HK, HR⟩ := hrel
      cases gk with
      | zero =>
        obtain ⟨ys, hij, hjl, hyl, hO, htk, hil, hdr, hq, hb, hfr, hsz⟩ := HR.out
        have hj : j = l.length := by have := HK.out; omega
        subst hj
        have hlt : ¬ ((l.length : Int) < (l.length : Int)) := by omega
        have hkl : keepL l seq = ys.take i := by rw [htk, List.take_length]
        have hil2 : i < l.length := hij
        obtain ⟨_, inner, ⟨hlen, hh⟩, hreps⟩ := hO
        obtain ⟨cur, hg, hsz2, htake⟩ : ∃ cur, wr.heap[g]? = some (.cells cur 34 (0, 0)) ∧ cur.size = cap * k34.sz ∧ cur.toList.take (ys.length * k34.sz) = inner := by
          rcases hh with ⟨h1, _⟩ | ⟨g', cap', cur, h1, h2, h3, h4, h5, h6, h7⟩
          · injection h1 with h1; cases h1
          · injection h1 with h1 h8 h9
            injection h1 with h1
            injection h1 with h1
            subst h1; subst h9
            exact ⟨cur, h3, h6, h7⟩
        have hcap := HCAP.out
        have hs34 : k34.sz = 10 := rfl
        have HRP := Aside0.mk (hreps.imp_ (R' := fun x c => ∀ (W9 : World) (ok9 : Nat → Prop), Kd.FK k34 W9 ok9 x c) (fun x c hM => by have h9 := k34_open (k34.K_of_M hM); subst h9; exact fun _ _ W' _ => k34_mk W' x))
        have HTK := Aside0.mk htake
        have HBG := Aside0.mk (Kd.R_base HR.out.choose_spec.2.2.2.1 g (by simp [Value.ownBlock]))
        have HG := Aside0.mk hg
        have HS2 := Aside0.mk hsz2
        have HKL := Aside0.mk hkl
        have HY := Aside0.mk (⟨hyl, hb, hfr, hsz⟩ : ys.length = l.length ∧ Below B w00 wr ∧ (∀ k, k < w.heap.size → k ≠ g → wr.heap[k]? = w.heap[k]?) ∧ w.heap.size ≤ wr.heap.size)
        have hne : ¬ cap = i := by omega
        have hi0 : (0 : Int) ≤ (i : Int) := by omega
        have hi1 : (i : Int) ≤ (l.length : Int) := by omega
        have hile : i ≤ l.length := by omega
        clear hij hjl hyl htk hil hdr hq hb hfr hsz hlen hh hreps hg hsz2 hkl htake
        go_wp2_with ((with_reducible refine gate_clear (t := 25) (x := .tmp 38) rfl ?_); (refine wpList_clear_any rfl 25 34 (.tmp 38) rfl Try.underlying25 _ zeroMsg (by decide) g (i * 10) (l.length - i) (cap - i) (by simp [Act.eval, Act.put]) (fun j hj => by rw [cell_of_row _ _ _ _ _ _ HG.out, Array.getElem?_eq_getElem (by rw [HS2.out, hs34]; have hj' : j < (l.length - i) * 10 := hj; omega)]; rfl) (fun j _ => frozen_of_row _ _ _ _ _ HG.out) ?_; intro vs hvs; have HVS := Aside0.mk hvs; clear hvs))
        go_ret
        have hvl : vs.length = (l.length - i) * 10 := HVS.out
        obtain ⟨cur6, hg6, hs6, hl6⟩ := setCells_row vs (i * 10) wr cur HG.out (by rw [hvl, HS2.out, hs34]; omega)
        obtain ⟨hyl, hb, hfr, hsz⟩ := HY.out
        rw [HKL.out]
        have hlen : (ys.take i).length = i := by rw [List.length_take]; omega
        have hin : cur6.toList.take ((ys.take i).length * k34.sz) = inner.take (i * k34.sz) := by
          have hc : cur.toList.length = cur.size := Array.length_toList
          rw [hlen, hl6, ← HTK.out, List.take_take, Nat.min_eq_left (by rw [hs34]; omega), List.append_assoc, List.take_append_of_le_length (by rw [List.length_take, hc, HS2.out, hs34]; omega), List.take_take, hs34, Nat.min_self]
        have hF := F_row (d := k34) (ok := fun k_ => k_ = g) rfl hg6 hin (((Kd.reps_take HRP.out (by omega))).imp_ (fun x c hx => hx _ _)) (by rw [hlen]; have := HM.out; omega)
        rw [hlen] at hF ⊢
        exact ⟨rfl, by omega, hF, below_setCells_ HBG.out _ _ hb, fun k hk hkg => (setCells_far vs (i * 10) k hkg).trans (hfr k hk hkg)⟩
      | succ k1 =>
        obtain ⟨ys, hij, hjl, hyl, hO, htk, hil, hdr, hq, hb, hfr, hsz⟩ := HR.out
        have hlt : j < l.length := by have := HK.out; omega
        have hlt1 : (j : Int) < (l.length : Int) := by omega
        have p0 : (0 : Int) ≤ (j : Int) := by omega
        have pi0 : (0 : Int) ≤ (i : Int) := by omega
        have pi1 : (i : Int) < (l.length : Int) := by omega
        have hil9 : i < l.length := by omega
        obtain ⟨ad, eA, e0, e1, e2, e3, e4, e5, e6, e7, e8, e9⟩ := at_T34 (Kd.R_reads' hO).2.2 (j : Int) p0 (by rw [hyl]; exact hlt1)
        have eA := (Option.some.inj eA).symm
        subst eA
        rw [Int.toNat_natCast, add_zero_addr] at e0 e1 e2 e3 e4 e5 e6 e7 e8 e9
        have hx : rd_T34 ys (j : Int) = l[j] := by
          have h1 : ys[j]? = l[j]? := by
            have h2 : (ys.drop j)[0]? = (l.drop j)[0]? := by rw [hdr]
            rw [List.getElem?_drop, List.getElem?_drop] at h2
            exact h2
          rw [List.getElem?_eq_getElem hlt] at h1
          simp [rd_T34, List.getD_eq_getElem?_getD, h1]
        rw [hx] at e0 e1 e2 e3 e4 e5 e6 e7 e8 e9
        have HO2 := Aside0.mk hO
        have HQ2 := Aside0.mk hq
        have HX := Aside0.mk hx
        have HY := Aside0.mk (⟨hij, hyl, htk, hdr, hb, hfr, hsz⟩ : i < j ∧ ys.length = l.length ∧ ys.take i = keepL (l.take j) seq ∧ ys.drop j = l.drop j ∧ Below B w00 wr ∧ (∀ k, k < w.heap.size → k ≠ g → wr.heap[k]? = w.heap[k]?) ∧ w.heap.size ≤ wr.heap.size)
        have HJ := Aside0.mk hlt
        clear hij hjl hyl hO htk hil hdr hq hb hfr hsz hx HR
        have hw : IntKind.i64.wrap ((j : Int) + 1) = ((j + 1 : Nat) : Int) := by have := HM.out; rw [IntKind.wrap_i64]; omega
        have hw2 : IntKind.i64.wrap ((i : Int) + 1) = ((i + 1 : Nat) : Int) := by have := HM.out; rw [IntKind.wrap_i64]; omega
        by_cases hkeep : seq < (l[j]).f2
        · have hd : decide ((l[j]).f2 ≤ seq) = false := decide_eq_false (by omega)
          have HKP := Aside0.mk hkeep
          clear hkeep
          go_wp2_with (first
            | ((with_reducible refine gate_dst (N := 7) rfl ?_); refine box_event ?hgA (N := 7) ?hdA (cs := #[.int .i64 0, .int .i64 0, .int .i64 0, .int .i64 0, .int .i64 0, .int .i64 0, .int .i64 0, .int .i64 0, .int .i64 0, .int .i64 0]) (t := 34) ?hrA ?_; (case hdA => rfl); (case hgA => rfl); (case hrA => first | (go_simp; done) | (go_simp; rfl)); intro gb hgb w7 hbox hb7; have z0 : w7.cell? ⟨gb, 0, none⟩ = some _ := (cell_of_row _ _ _ _ _ _ hbox).trans rfl; have y0 : w7.frozen? ⟨gb, 0, none⟩ = false := frozen_of_row _ _ _ _ _ hbox; have z1 : w7.cell? ⟨gb, 1, none⟩ = some _ := (cell_of_row _ _ _ _ _ _ hbox).trans rfl; have y1 : w7.frozen? ⟨gb, 1, none⟩ = false := frozen_of_row _ _ _ _ _ hbox; have z2 : w7.cell? ⟨gb, 2, none⟩ = some _ := (cell_of_row _ _ _ _ _ _ hbox).trans rfl; have y2 : w7.frozen? ⟨gb, 2, none⟩ = false := frozen_of_row _ _ _ _ _ hbox; have z3 : w7.cell? ⟨gb, 3, none⟩ = some _ := (cell_of_row _ _ _ _ _ _ hbox).trans rfl; have y3 : w7.frozen? ⟨gb, 3, none⟩ = false := frozen_of_row _ _ _ _ _ hbox; have z4 : w7.cell? ⟨gb, 4, none⟩ = some _ := (cell_of_row _ _ _ _ _ _ hbox).trans rfl; have y4 : w7.frozen? ⟨gb, 4, none⟩ = false := frozen_of_row _ _ _ _ _ hbox; have z5 : w7.cell? ⟨gb, 5, none⟩ = some _ := (cell_of_row _ _ _ _ _ _ hbox).trans rfl; have y5 : w7.frozen? ⟨gb, 5, none⟩ = false := frozen_of_row _ _ _ _ _ hbox; have z6 : w7.cell? ⟨gb, 6, none⟩ = some _ := (cell_of_row _ _ _ _ _ _ hbox).trans rfl; have y6 : w7.frozen? ⟨gb, 6, none⟩ = false := frozen_of_row _ _ _ _ _ hbox; have z7 : w7.cell? ⟨gb, 7, none⟩ = some _ := (cell_of_row _ _ _ _ _ _ hbox).trans rfl; have y7 : w7.frozen? ⟨gb, 7, none⟩ = false := frozen_of_row _ _ _ _ _ hbox; have z8 : w7.cell? ⟨gb, 8, none⟩ = some _ := (cell_of_row _ _ _ _ _ _ hbox).trans rfl; have y8 : w7.frozen? ⟨gb, 8, none⟩ = false := frozen_of_row _ _ _ _ _ hbox; have z9 : w7.cell? ⟨gb, 9, none⟩ = some _ := (cell_of_row _ _ _ _ _ _ hbox).trans rfl; have y9 : w7.frozen? ⟨gb, 9, none⟩ = false := frozen_of_row _ _ _ _ _ hbox; have HGB := Aside0.mk hgb; have HBOX := Aside0.mk hbox; have HB7 := Aside0.mk hb7; clear hbox hgb hb7)
            | (go_at_call 37; (refine (done1 l[j] q seq _ ?_).mono ?_; exact (setCells_far (g := gb) [_, _, _, _, _, _, _, _, _, _] 0 q (by have h1 := HGB.out; have h2 := (Array.getElem?_eq_some_iff.1 HQ2.out).1; omega)).trans ((HB7.out.block q (Array.getElem?_eq_some_iff.1 HQ2.out).1).trans HQ2.out); rintro e w9 ⟨rfl, hb9⟩; rw [hd]; have HB9 := Aside0.mk (below_step (below_setCells_ (g := gb) (Nat.le_of_eq HGB.out.symm) 0 [_, _, _, _, _, _, _, _, _, _] HB7.out) hb9); have hbx := (hb9.block gb (Nat.lt_of_lt_of_eq ((Array.getElem?_eq_some_iff.1 HBOX.out).1) ((setCells_same gb [.int .i64 (l[j]).f0, .int .i64 (l[j]).f1, .int .i64 (l[j]).f2, .int .i64 (l[j]).f3, .int .i64 (l[j]).f4.f0.f0, .int .i64 (l[j]).f4.f0.f1, .int .i64 (l[j]).f4.f1, .int .i64 (l[j]).f4.f2, .int .i64 (l[j]).f4.f3.f0, .int .i64 (l[j]).f4.f3.f1] 0 w7).2.2.2).symm)).trans (setAll (cs' := #[.int .i64 (l[j]).f0, .int .i64 (l[j]).f1, .int .i64 (l[j]).f2, .int .i64 (l[j]).f3, .int .i64 (l[j]).f4.f0.f0, .int .i64 (l[j]).f4.f0.f1, .int .i64 (l[j]).f4.f1, .int .i64 (l[j]).f4.f2, .int .i64 (l[j]).f4.f3.f0, .int .i64 (l[j]).f4.f3.f1]) HBOX.out rfl); have t0 : w9.cell? ⟨gb, 0, none⟩ = some _ := (cell_of_row _ _ _ _ _ _ hbx).trans rfl; have t1 : w9.cell? ⟨gb, 1, none⟩ = some _ := (cell_of_row _ _ _ _ _ _ hbx).trans rfl; have t2 : w9.cell? ⟨gb, 2, none⟩ = some _ := (cell_of_row _ _ _ _ _ _ hbx).trans rfl; have t3 : w9.cell? ⟨gb, 3, none⟩ = some _ := (cell_of_row _ _ _ _ _ _ hbx).trans rfl; have t4 : w9.cell? ⟨gb, 4, none⟩ = some _ := (cell_of_row _ _ _ _ _ _ hbx).trans rfl; have t5 : w9.cell? ⟨gb, 5, none⟩ = some _ := (cell_of_row _ _ _ _ _ _ hbx).trans rfl; have t6 : w9.cell? ⟨gb, 6, none⟩ = some _ := (cell_of_row _ _ _ _ _ _ hbx).trans rfl; have t7 : w9.cell? ⟨gb, 7, none⟩ = some _ := (cell_of_row _ _ _ _ _ _ hbx).trans rfl; have t8 : w9.cell? ⟨gb, 8, none⟩ = some _ := (cell_of_row _ _ _ _ _ _ hbx).trans rfl; have t9 : w9.cell? ⟨gb, 9, none⟩ = some _ := (cell_of_row _ _ _ _ _ _ hbx).trans rfl; clear hbx; clear hb9))
            | ((with_reducible refine gate_store (t := 34) (p := 33) rfl ?_); (obtain ⟨ad9, c9, eA9, hcl9, hcK9, hcc9⟩ := ReadsRow.get_ (Kd.R_reads' (Kd.R_below HO2.out HB9.out)).2.2 z34 (i : Int) pi0 (by rw [HY.out.2.1]; exact pi1); have eA9 := (Option.some.inj eA9).symm; subst eA9; refine Kd.R_store k34 (w0 := w00) B rfl rfl 34 (.tmp 33) (.tmp 32) rfl 34 (i : Int) 0 ys l[j] (.agg #[.int .i64 (l[j]).f0, .int .i64 (l[j]).f1, .int .i64 (l[j]).f2, .int .i64 (l[j]).f3, .int .i64 (l[j]).f4.f0.f0, .int .i64 (l[j]).f4.f0.f1, .int .i64 (l[j]).f4.f1, .int .i64 (l[j]).f4.f2, .int .i64 (l[j]).f4.f3.f0, .int .i64 (l[j]).f4.f3.f1]) [.int .i64 (l[j]).f0, .int .i64 (l[j]).f1, .int .i64 (l[j]).f2, .int .i64 (l[j]).f3, .int .i64 (l[j]).f4.f0.f0, .int .i64 (l[j]).f4.f0.f1, .int .i64 (l[j]).f4.f1, .int .i64 (l[j]).f4.f2, .int .i64 (l[j]).f4.f3.f0, .int .i64 (l[j]).f4.f3.f1] c9 (fun _ => True) (fun _ => False) (by first | rfl | simp [Act.eval, Act.put]) (by simp; rfl) rfl rfl (by kernel_rfl) (by simp [Value.oneCell']) (Kd.R_below HO2.out HB9.out) pi0 pi1 hcl9 (fun j9 u9 h9 => by have h8 := hcc9 j9 u9 h9; rw [add_zero_addr] at h8; exact h8) (Nat.le_refl 10) (by rw [List.take_zero, List.nil_append, List.drop_of_length_le (by rw [hcl9]; exact Nat.le_refl 10), List.append_nil]; exact k34_mkM _ _ _ l[j]) (fun _ h => h.elim) (below_then HY.out.2.2.2.2.1 (by have h1 := HBW.out; have h2 := HY.out.2.2.2.2.2.2; omega) HB9.out) ?_; intro w5 h5 hb5 hg5; rw [Int.toNat_natCast] at h5; have H5 := Aside0.mk h5; have HB5 := Aside0.mk hb5; have HG5 := Aside0.mk hg5; clear h5 hb5 hg5 hcl9 hcK9 hcc9)))
          go_roundg k1
          case measure => omega
          case rel =>
            obtain ⟨hij, hyl, htk, hdr, hb, hfr, hsz⟩ := HY.out
            have hql := (Array.getElem?_eq_some_iff.1 HQ2.out).1
            have hqg : q ≠ g := fun he => Kd.R_ne HO2.out HQ2.out (by decide) (by simp [Value.ownBlock, he])
            refine ⟨i + 1, j + 1, by first | rfl | (rw [hw2]), by first | rfl | (rw [hw]), ⟨by have := HK.out; omega⟩, ⟨ys.set i l[j], by omega, HJ.out, by rw [List.length_set]; exact hyl, H5.out, ?_, hil9, ?_, (HG5.out.block q (Nat.lt_of_lt_of_le hql HB9.out.size) (by simp [hqg])).trans ((HB9.out.block q hql).trans HQ2.out), HB5.out, fun k hk hkg => (HG5.out.block k (Nat.lt_of_lt_of_le (Nat.lt_of_lt_of_le hk hsz) HB9.out.size) (by simp [hkg])).trans ((HB9.out.block k (Nat.lt_of_lt_of_le hk hsz)).trans (hfr k hk hkg)), Nat.le_trans (Nat.le_trans hsz HB9.out.size) HG5.out.size⟩⟩
            · rw [List.take_add_one, List.take_set_of_le (Nat.le_refl _), List.getElem?_set_self (by omega), htk]
              unfold keepL
              rw [List.take_add_one, List.getElem?_eq_getElem HJ.out, List.filter_append]
              have h9 := HKP.out
              simp [h9]
            · rw [List.drop_set_of_lt (by omega), ← List.drop_drop, hdr, List.drop_drop]
        · have hd : decide ((l[j]).f2 ≤ seq) = true := decide_eq_true (by omega)
          have HKP := Aside0.mk hkeep
          clear hkeep
          go_wp2_with (first
            | ((with_reducible refine gate_dst (N := 7) rfl ?_); refine box_event ?hgB (N := 7) ?hdB (cs := #[.int .i64 0, .int .i64 0, .int .i64 0, .int .i64 0, .int .i64 0, .int .i64 0, .int .i64 0, .int .i64 0, .int .i64 0, .int .i64 0]) (t := 34) ?hrB ?_; (case hdB => rfl); (case hgB => rfl); (case hrB => first | (go_simp; done) | (go_simp; rfl)); intro gb hgb w7 hbox hb7; have z0 : w7.cell? ⟨gb, 0, none⟩ = some _ := (cell_of_row _ _ _ _ _ _ hbox).trans rfl; have y0 : w7.frozen? ⟨gb, 0, none⟩ = false := frozen_of_row _ _ _ _ _ hbox; have z1 : w7.cell? ⟨gb, 1, none⟩ = some _ := (cell_of_row _ _ _ _ _ _ hbox).trans rfl; have y1 : w7.frozen? ⟨gb, 1, none⟩ = false := frozen_of_row _ _ _ _ _ hbox; have z2 : w7.cell? ⟨gb, 2, none⟩ = some _ := (cell_of_row _ _ _ _ _ _ hbox).trans rfl; have y2 : w7.frozen? ⟨gb, 2, none⟩ = false := frozen_of_row _ _ _ _ _ hbox; have z3 : w7.cell? ⟨gb, 3, none⟩ = some _ := (cell_of_row _ _ _ _ _ _ hbox).trans rfl; have y3 : w7.frozen? ⟨gb, 3, none⟩ = false := frozen_of_row _ _ _ _ _ hbox; have z4 : w7.cell? ⟨gb, 4, none⟩ = some _ := (cell_of_row _ _ _ _ _ _ hbox).trans rfl; have y4 : w7.frozen? ⟨gb, 4, none⟩ = false := frozen_of_row _ _ _ _ _ hbox; have z5 : w7.cell? ⟨gb, 5, none⟩ = some _ := (cell_of_row _ _ _ _ _ _ hbox).trans rfl; have y5 : w7.frozen? ⟨gb, 5, none⟩ = false := frozen_of_row _ _ _ _ _ hbox; have z6 : w7.cell? ⟨gb, 6, none⟩ = some _ := (cell_of_row _ _ _ _ _ _ hbox).trans rfl; have y6 : w7.frozen? ⟨gb, 6, none⟩ = false := frozen_of_row _ _ _ _ _ hbox; have z7 : w7.cell? ⟨gb, 7, none⟩ = some _ := (cell_of_row _ _ _ _ _ _ hbox).trans rfl; have y7 : w7.frozen? ⟨gb, 7, none⟩ = false := frozen_of_row _ _ _ _ _ hbox; have z8 : w7.cell? ⟨gb, 8, none⟩ = some _ := (cell_of_row _ _ _ _ _ _ hbox).trans rfl; have y8 : w7.frozen? ⟨gb, 8, none⟩ = false := frozen_of_row _ _ _ _ _ hbox; have z9 : w7.cell? ⟨gb, 9, none⟩ = some _ := (cell_of_row _ _ _ _ _ _ hbox).trans rfl; have y9 : w7.frozen? ⟨gb, 9, none⟩ = false := frozen_of_row _ _ _ _ _ hbox; have HGB := Aside0.mk hgb; have HBOX := Aside0.mk hbox; have HB7 := Aside0.mk hb7; clear hbox hgb hb7)
            | (go_at_call 37; (refine (done1 l[j] q seq _ ?_).mono ?_; exact (setCells_far (g := gb) [_, _, _, _, _, _, _, _, _, _] 0 q (by have h1 := HGB.out; have h2 := (Array.getElem?_eq_some_iff.1 HQ2.out).1; omega)).trans ((HB7.out.block q (Array.getElem?_eq_some_iff.1 HQ2.out).1).trans HQ2.out); rintro e w9 ⟨rfl, hb9⟩; rw [hd]; have HB9 := Aside0.mk (below_step (below_setCells_ (g := gb) (Nat.le_of_eq HGB.out.symm) 0 [_, _, _, _, _, _, _, _, _, _] HB7.out) hb9); clear hb9)))
          go_roundg k1
          case measure => omega
          case rel =>
            obtain ⟨hij, hyl, htk, hdr, hb, hfr, hsz⟩ := HY.out
            refine ⟨i, j + 1, rfl, by first | rfl | (rw [hw]), ⟨by have := HK.out; omega⟩, ⟨ys, by omega, HJ.out, hyl, Kd.R_below HO2.out HB9.out, ?_, by omega, ?_, (HB9.out.block q (Array.getElem?_eq_some_iff.1 HQ2.out).1).trans HQ2.out, below_then hb (by have := HBW.out; omega) HB9.out, fun k hk hkg => (HB9.out.block k (by omega)).trans (hfr k hk hkg), Nat.le_trans hsz HB9.out.size⟩⟩
            · rw [htk]
              unfold keepL
              rw [List.take_add_one, List.getElem?_eq_getElem HJ.out, List.filter_append]
              have h9 := HKP.out
              simp [h9]
            · rw [← List.drop_drop, hdr, List.drop_drop]
  · have HN := Aside0.mk hn
    clear hn HIX
    go_ret
    have e : keepL l seq = l := List.filter_eq_self.2 (fun x hx => decide_eq_true (HN.out x hx))
    rw [e]
    exact ⟨rfl, HCAP.out, msg_rowF (Kd.R_below HO.out HB1.out) rfl HM.out, below_then HB.out HBW.out HB1.out, fun k hk _ => HB1.out.block k hk⟩
def doneSpec (a b : Int) (l : List S34) (e q : Int) : Int × Int × List S34 := (a, b, if e = a then keepL l q else l)
set_option maxHeartbeats 4000000 in
set_option maxRecDepth 100000 in
theorem sess_Done.main (a b : Int) (A : Option Addr) (c : Nat) (l : List S34) (ep seq : Int) (w : World) (hr : Kd.C k34 w A l.length l) (hc : l.length ≤ c) (hl : l.length < 1000000) :
    Calls Try.prog 18 #[.agg #[.int .i64 a, .int .i64 b, .slice A l.length c], .int .i64 ep, .int .i64 seq] w fun e w' => ∃ v2_ : Value, e = .returned (.agg #[.int .i64 a, .int .i64 b, v2_]) ∧ Kd.V k34 34 w' w.heap.size (fun k_ => (w.heap.size ≤ k_)) v2_ (doneSpec a b l ep seq).2.2 ∧ Below w.heap.size w w' := by
  have HL := Aside0.mk hl
  have HC := Aside0.mk hc
  obtain ⟨W1, hW1⟩ : ∃ W1, W1 = w.alloc (.cells #[.int .i64 a, .int .i64 b, .slice A l.length c] 41) := ⟨_, rfl⟩
  obtain ⟨W2, hW2⟩ : ∃ W2, W2 = W1.alloc (.cells #[.int .i64 seq] 3) := ⟨_, rfl⟩
  obtain ⟨W3, hW3⟩ : ∃ W3, W3 = W2.alloc (.cells #[.int .i64 0, .int .i64 0, .slice none 0 0] 41) := ⟨_, rfl⟩
  have s1 : W1.heap.size = w.heap.size + 1 := by rw [hW1, alloc_size_]
  have s2 : W2.heap.size = w.heap.size + 2 := by rw [hW2, alloc_size_, s1]
  have s3 : W3.heap.size = w.heap.size + 3 := by rw [hW3, alloc_size_, s2]
  have b1 : Below w.heap.size w W1 := by rw [hW1]; exact below_alloc (Below.refl _ _) _
  have b2 : Below W1.heap.size W1 W2 := by rw [hW2]; exact below_alloc (Below.refl _ _) _
  have b3 : Below W2.heap.size W2 W3 := by rw [hW3]; exact below_alloc (Below.refl _ _) _
  have h1 : W1.heap[w.heap.size]? = some (.cells #[.int .i64 a, .int .i64 b, .slice A l.length c] 41 (0, 0)) := by rw [hW1]; exact heap_alloc_new w _
  have h2 : W2.heap[w.heap.size + 1]? = some (.cells #[.int .i64 seq] 3 (0, 0)) := by rw [hW2, ← s1]; exact heap_alloc_new W1 _
  have h3 : W3.heap[w.heap.size + 2]? = some (.cells #[.int .i64 0, .int .i64 0, .slice none 0 0] 41 (0, 0)) := by rw [hW3, ← s2]; exact heap_alloc_new W2 _
  have h13 : W3.heap[w.heap.size]? = some (.cells #[.int .i64 a, .int .i64 b, .slice A l.length c] 41 (0, 0)) := ((b3.block _ (by omega)).trans (b2.block _ (by omega))).trans h1
  have h23 : W3.heap[w.heap.size + 1]? = some (.cells #[.int .i64 seq] 3 (0, 0)) := (b3.block _ (by omega)).trans h2
  have b03 : Below w.heap.size w W3 := below_then (below_then b1 (by omega) b2) (by omega) b3
  have HR := Aside0.mk (Kd.C_below hr b03)
  have HB := Aside0.mk b03
  have H1 := Aside0.mk h13
  have H2 := Aside0.mk h23
  have H3 := Aside0.mk h3
  have HS := Aside0.mk s3
  subst hW1 hW2
  clear hl hc hr s1 s2 s3 b1 b2 b3 h1 h2 h3 h13 h23 b03
  have HW3 := Aside0.mk hW3
  clear hW3
  by_cases he : ep = a
  · have hsp : (doneSpec a b l ep seq).2.2 = keepL l seq := if_pos he
    have HSP := Aside0.mk hsp
    subst he
    clear hsp
    go_enter Try.func18, Try.ntmps18
    go_wp2_with (first
      | (go_at_call 35; rw [← HW3.out]; refine (sess_own.main0 ep b A c l W3 HR.out HC.out HL.out).mono ?_; rintro e w4 ⟨g, cap, rfl, h4, hb4⟩; have n1 := (hb4.block w.heap.size (by have := HS.out; omega)).trans H1.out; have n2 := (hb4.block (w.heap.size + 1) (by have := HS.out; omega)).trans H2.out; have n3 := (hb4.block (w.heap.size + 2) (by have := HS.out; omega)).trans H3.out; obtain ⟨⟨a0, a1, a2⟩, q0, q1, q2⟩ := cells3 n1; obtain ⟨⟨d0, d1, d2⟩, p0, p1, p2⟩ := cells3 n3; have N1 := Aside0.mk n1; have N2 := Aside0.mk n2; have N3 := Aside0.mk n3; have H4 := Aside0.mk h4; have HB4 := Aside0.mk hb4; clear n1 n2 n3 h4 hb4)
      | (go_at_call 36; (have f1 := set3 N1.out (.int .i64 ep) (.int .i64 b) (.slice (some ⟨g, 0, none⟩) l.length cap); have ff : ∀ k_, k_ ≠ w.heap.size → (((w4.setCell ⟨w.heap.size, 0, none⟩ (.int .i64 ep)).setCell ⟨w.heap.size, 1, none⟩ (.int .i64 b)).setCell ⟨w.heap.size, 2, none⟩ (.slice (some ⟨g, 0, none⟩) l.length cap)).heap[k_]? = w4.heap[k_]? := (fun k_ hk => far3 hk _ _ _); have fs : (((w4.setCell ⟨w.heap.size, 0, none⟩ (.int .i64 ep)).setCell ⟨w.heap.size, 1, none⟩ (.int .i64 b)).setCell ⟨w.heap.size, 2, none⟩ (.slice (some ⟨g, 0, none⟩) l.length cap)).heap.size = w4.heap.size := (setCells_same w.heap.size [.int .i64 ep, .int .i64 b, .slice (some ⟨g, 0, none⟩) l.length cap] 0 w4).2.2.2; have fb : Below w.heap.size w (((w4.setCell ⟨w.heap.size, 0, none⟩ (.int .i64 ep)).setCell ⟨w.heap.size, 1, none⟩ (.int .i64 b)).setCell ⟨w.heap.size, 2, none⟩ (.slice (some ⟨g, 0, none⟩) l.length cap)) := below3 (Nat.le_refl _) _ _ _ (below_then HB.out (by have h8 := HS.out; omega) HB4.out); obtain ⟨w4c, hw4c⟩ : ∃ w4c, (((w4.setCell ⟨w.heap.size, 0, none⟩ (.int .i64 ep)).setCell ⟨w.heap.size, 1, none⟩ (.int .i64 b)).setCell ⟨w.heap.size, 2, none⟩ (.slice (some ⟨g, 0, none⟩) l.length cap)) = w4c := ⟨_, rfl⟩; rw [hw4c] at f1 ff fs fb ⊢; have hgg := Kd.R_base H4.out g (by simp [Value.ownBlock]); have hsz4 := HB4.out.size; rw [HS.out] at hgg hsz4; refine (delf_main g cap l (w.heap.size + 1) seq w.heap.size w w4c (Kd.R_lower (Kd.R_mono (Kd.R_step (Kd.R_bound H4.out) (fun k_ hk _ => ff k_ (by have h7 := hk.2.1; have h8 := HS.out; omega))) (fun _ _ => trivial)) (by have h8 := HS.out; omega)) ((ff _ (by omega)).trans N2.out) fb fb.size).mono ?_; rintro e w5 ⟨rfl, hcp, hF5, hB5, hfr5⟩; have n1 := (hfr5 w.heap.size (by omega) (by omega)).trans f1; have n3 := (hfr5 (w.heap.size + 2) (by omega) (by omega)).trans ((ff _ (by omega)).trans N3.out); clear a0 a1 a2 q0 q1 q2 d0 d1 d2 p0 p1 p2; obtain ⟨⟨a0, a1, a2⟩, q0, q1, q2⟩ := cells3 n1; obtain ⟨⟨d0, d1, d2⟩, p0, p1, p2⟩ := cells3 n3; have HGG := Aside0.mk hgg; have HCP := Aside0.mk hcp; have HF5 := Aside0.mk hF5; have HB5 := Aside0.mk hB5; clear f1 ff fs fb hw4c hgg hsz4 hcp hF5 hB5 hfr5 n1 n3)))
    refine bodyPost_ret (by simp [results, Try.results18, go_sem, a0, a1, a2, d0, d1, d2]; try rfl) rfl ?_
    rw [HSP.out]
    exact ⟨_, rfl, Kd.V_mk HCP.out (Kd.F_mono (Kd.F_step (Kd.F_far HF5.out (fun k_ hk => by have h7 := HGG.out; subst hk; show k_ ≠ w.heap.size; omega) _) (fun k_ hk _ => far3 (by have h7 := HGG.out; omega) _ _ _)) (fun k_ hk => by have h7 := HGG.out; omega)), below3 (by omega) _ _ _ (below_setCell_ (Nat.le_refl _) _ _ HB5.out)⟩
  · have hsp : (doneSpec a b l ep seq).2.2 = l := if_neg he
    have hb : (ep == a) = false := beq_eq_false_iff_ne.2 he
    have HSP := Aside0.mk hsp
    clear hsp
    go_enter Try.func18, Try.ntmps18
    go_wp2_with (first
      | (go_at_call 35; rw [← HW3.out]; refine (sess_own.main0 a b A c l W3 HR.out HC.out HL.out).mono ?_; rintro e w4 ⟨g, cap, rfl, h4, hb4⟩; have n1 := (hb4.block w.heap.size (by have := HS.out; omega)).trans H1.out; have n2 := (hb4.block (w.heap.size + 1) (by have := HS.out; omega)).trans H2.out; have n3 := (hb4.block (w.heap.size + 2) (by have := HS.out; omega)).trans H3.out; obtain ⟨⟨a0, a1, a2⟩, q0, q1, q2⟩ := cells3 n1; obtain ⟨⟨d0, d1, d2⟩, p0, p1, p2⟩ := cells3 n3; have N1 := Aside0.mk n1; have N2 := Aside0.mk n2; have N3 := Aside0.mk n3; have H4 := Aside0.mk h4; have HB4 := Aside0.mk hb4; clear n1 n2 n3 h4 hb4))
    refine bodyPost_ret (by simp [results, Try.results18, go_sem, a0, a1, a2, d0, d1, d2]; try rfl) rfl ?_
    rw [HSP.out]
    have hb4 := below_then HB.out (by have h8 := HS.out; omega) HB4.out
    exact ⟨_, rfl, Kd.V_mk (Kd.R_reads' H4.out).2.1 (Kd.F_mono (Kd.F_step (Kd.F_step (Kd.R_F (Kd.R_bound H4.out)) (fun k_ hk _ => far3 (by have h7 := hk.2.1; have h8 := HS.out; omega) _ _ _)) (fun k_ hk _ => far3 (by have h7 := hk.2.1; have h8 := HS.out; omega) _ _ _)) (fun k_ hk => by have h7 := hk.2.1; have h8 := HS.out; omega)), below3 (by omega) _ _ _ (below3 (Nat.le_refl _) _ _ _ hb4)⟩

def sess_Done.f (a0_0 : Int) (a0_1 : Int) (l0_2 : List (S34)) (a1 : Int) (a2 : Int) : Option (Int × Int × List (S34)) := if l0_2.length < 1000000 then some (doneSpec a0_0 a0_1 l0_2 a1 a2) else none
set_option maxHeartbeats 8000000 in
set_option maxRecDepth 100000 in
theorem sess_Done.calls (a0_0 : Int) (a0_1 : Int) (A0_2 : Option Addr) (c0_2 : Nat) (l0_2 : List (S34)) (a1 : Int) (a2 : Int) (r1 : Int) (r2 : Int) (r3 : List (S34)) (w : World) (hr0_2 : Kd.C k34 w A0_2 l0_2.length l0_2) (hc0_2 : l0_2.length ≤ c0_2) (h : sess_Done.f a0_0 a0_1 l0_2 a1 a2 = some (r1, r2, r3)) :
    Calls Try.prog 18 #[.agg #[.int .i64 a0_0, .int .i64 a0_1, .slice A0_2 l0_2.length c0_2], .int .i64 a1, .int .i64 a2] w fun e w' => ∃ v2_ : Value, e = .returned (.agg #[.int .i64 r1, .int .i64 r2, v2_]) ∧ Kd.V k34 34 w' w.heap.size (fun k_ => (w.heap.size ≤ k_)) v2_ r3 ∧ Below w.heap.size w w' := by
  unfold sess_Done.f at h
  split at h
  · have hm := sess_Done.main a0_0 a0_1 A0_2 c0_2 l0_2 a1 a2 w hr0_2 hc0_2 ‹_›
    have h1 := Option.some.inj h
    simp only [doneSpec, Prod.mk.injEq] at h1
    obtain ⟨rfl, rfl, rfl⟩ := h1
    exact hm
  · cases h

end Go.Proofs.Ytibkmiffibacbaa.Print
