/- A text that a program of this session printed out of the translation: checked by Lean alone. -/
import Derived.Test.YtibkmiffibacbaaPrint0
import Derived.Test.YtibkmiffibacbaaPrintH
namespace Go.Proofs.Ytibkmiffibacbaa.Print
open Go.RowKit Go.Proofs.YtibkmiffibacbaaW.PrintWords Go.Proofs.YtibkmiffibacbaaW.PrintLast Go.Proofs.YtibkmiffibacbaaW.PrintMore
attribute [local go_sem] max2_int min2_int max_two min_two max_three min_three max_four min_four   -- for this text's walks alone
set_option linter.unusedVariables false
set_option linter.unusedSimpArgs false

/-! ### sess_own: function 35 -/
theorem msg_reps {w : World} (base : Nat) (ok : Nat → Prop) {xs : List S34} {inner : List Value} (h : Reps (fun x c => k34.K w x c) k34.sz xs inner) (w' : World) : Reps (fun x c => k34.M w' base ok x c) k34.sz xs inner :=
  h.imp_ (fun x c hk => by rw [k34_open hk]; exact k34_mkM w' base ok x)
set_option maxHeartbeats 4000000 in
set_option maxRecDepth 100000 in
theorem sess_own.main0 (a b : Int) (A : Option Addr) (c : Nat) (l : List S34) (w : World) (hr : Kd.C k34 w A l.length l) (hc : l.length ≤ c) (hl : l.length < 1000000) :
    Calls Try.prog 35 #[.agg #[.int .i64 a, .int .i64 b, .slice A l.length c]] w fun e w' => ∃ g cap : Nat, e = .returned (.agg #[.int .i64 a, .int .i64 b, .slice (some ⟨g, 0, none⟩) l.length cap]) ∧ Kd.R k34 34 w' w.heap.size (fun _ => True) (.slice (some ⟨g, 0, none⟩) l.length cap) l ∧ Below w.heap.size w w' := by
  have HR := Aside0.mk hr
  have HC := Aside0.mk hc
  have HL := Aside0.mk hl
  have hp0 : (0 : Int) ≤ (l.length : Int) := by omega
  clear hr hc hl
  go_enter Try.func35, Try.ntmps35
  go_wp2_with (first
    | ((with_reducible refine gate_dst (N := 7) rfl ?_); refine Kd.R_make k34 (w0 := w) w.heap.size 34 rfl (N := 7) rfl 25 (.tmp 6) (.tmp 6) rfl (l.length : Int) rfl rfl Try.underlying25 _ 80 info34 rfl (by decide) (by decide) z34 (ok := fun _ => True) (okp := fun _ => False) (k34_mkM _ _ _ z34) (fun _ h => h.elim) trivial hp0 (by have := HL.out; omega) (below_alloc (below_alloc (Below.refl _ _) _) _) (by rw [alloc_size_, alloc_size_]; omega) ?_; intro v3 w3 h3 hb3 hg3 hat3; rw [Int.toNat_natCast] at h3; obtain ⟨_, inner, ⟨hlen, hh⟩, hreps⟩ := h3; obtain ⟨gb, hgb, hgb2⟩ := hat3; rw [alloc_size_, alloc_size_] at hgb2; obtain ⟨g, cap, cur, rfl, hbg, hg, hnc, hmax, hsz, htake⟩ : ∃ g cap cur, v3 = .slice (some ⟨g, 0, none⟩) (List.replicate l.length z34).length cap ∧ w.heap.size + 2 ≤ g ∧ w3.heap[g]? = some (.cells cur 34 (0, 0)) ∧ (List.replicate l.length z34).length ≤ cap ∧ cap ≤ maxLen ∧ cur.size = cap * k34.sz ∧ cur.toList.take ((List.replicate l.length z34).length * k34.sz) = inner := (by rcases hh with ⟨rfl, _⟩ | ⟨g, cap, cur, rfl, h1, h2, h3, h4, h5, h6⟩; (exact absurd hgb (by simp [Value.ownBlock])); (exact ⟨g, cap, cur, rfl, by have h9 : g = gb := Option.some.inj hgb; omega, h2, h3, h4, h5, h6⟩)); rw [List.length_replicate] at hnc ⊢; clear hlen hh hreps htake hgb inner; have h1 := (hg3.block w.heap.size (by rw [alloc_size_, alloc_size_]; omega) (by simp)).trans (((below_alloc (Below.refl (w.alloc (Obj.cells #[.int .i64 a, .int .i64 b, .slice A l.length c] 41)).heap.size _) (Obj.cells #[Value.int IntKind.i64 0, Value.int IntKind.i64 0, Value.slice none 0 0] 41)).block w.heap.size (by rw [alloc_size_]; omega)).trans (heap_alloc_new w _)); have h2 := (hg3.block (w.heap.size + 1) (by rw [alloc_size_, alloc_size_]; omega) (by simp)).trans ((by rw [alloc_size_] : (w.alloc (Obj.cells #[.int .i64 a, .int .i64 b, .slice A l.length c] 41)).heap.size = w.heap.size + 1) ▸ heap_alloc_new (w.alloc (Obj.cells #[.int .i64 a, .int .i64 b, .slice A l.length c] 41)) (Obj.cells #[Value.int IntKind.i64 0, Value.int IntKind.i64 0, Value.slice none 0 0] 41)); have H1 := Aside0.mk h1; have H2 := Aside0.mk h2; have HG := Aside0.mk hg; have HBG := Aside0.mk hbg; have HNC := Aside0.mk hnc; have HMX := Aside0.mk hmax; have HSZ := Aside0.mk hsz; have HB := Aside0.mk hb3; obtain ⟨⟨a0, a1, a2⟩, b0, b1, b2⟩ := cells3 h1; clear hgb2 hg3 h1 h2 hg hbg hnc hmax hsz hb3)
    | ((with_reducible refine gate_builtin (b := .copy) (xs := #[.tmp 8, .tmp 10]) rfl ?_); refine wpList_copy_full k34 rfl (.tmp 8) (.tmp 10) 25 25 34 rfl Try.underlying25 (by kernel_rfl) g l.length cap c cur A l rfl rfl rfl (Kd.C_below HR.out HB.out) HG.out (by rw [HSZ.out]; exact Nat.mul_le_mul_right _ HNC.out) ?_; intro inner hin; obtain ⟨w4, hw4⟩ : ∃ w4, w3.setCells g 0 inner = w4 := ⟨_, rfl⟩; obtain ⟨cur4, hg4, hs4, hl4⟩ := setCells_row inner 0 w3 cur HG.out (by rw [hin.1, HSZ.out, Nat.zero_add]; exact Nat.mul_le_mul_right _ HNC.out); have hf4 : ∀ k_, k_ ≠ g → w4.heap[k_]? = w3.heap[k_]? := (fun k_ hk => by rw [← hw4]; exact setCells_far _ _ _ hk); have hb4 : Below w.heap.size w w4 := (by rw [← hw4]; exact below_setCells_ (by have := HBG.out; omega) _ _ HB.out); rw [hw4] at hg4 ⊢; have h1 := (hf4 w.heap.size (by have := HBG.out; omega)).trans H1.out; have h2 := (hf4 (w.heap.size + 1) (by have := HBG.out; omega)).trans H2.out; clear a0 a1 a2 b0 b1 b2 hw4 hf4; obtain ⟨⟨a0, a1, a2⟩, b0, b1, b2⟩ := cells3 h1; obtain ⟨⟨d0, d1, d2⟩, p0, p1, p2⟩ := cells3 h2; have HG4 := Aside0.mk hg4; have HS4 := Aside0.mk hs4; have HL4 := Aside0.mk hl4; have HIN := Aside0.mk hin; have HB4 := Aside0.mk hb4; clear h1 h2 hg4 hs4 hl4 hin hb4))
  refine bodyPost_ret (by simp [results, Try.results35, go_sem, a0, a1, a2, d0, d1, d2]; try rfl) rfl ?_
  have hne1 : g ≠ w.heap.size := by have := HBG.out; omega
  have hne2 : g ≠ w.heap.size + 1 := by have := HBG.out; omega
  refine ⟨g, cap, rfl, ⟨fun _ _ => trivial, inner, ⟨HIN.out.1, .inr ⟨g, cap, cur4, rfl, by have := HBG.out; omega, (far3 hne2 _ _ _).trans ((Below.heap_setCell _ _ _ _ hne1).trans HG4.out), HNC.out, HMX.out, HS4.out.trans HSZ.out, ?_⟩⟩, msg_reps _ _ HIN.out _⟩, below3 (by omega) _ _ _ (below_setCell_ (Nat.le_refl _) _ _ HB4.out)⟩
  rw [HL4.out, List.take_zero, List.nil_append, ← HIN.out.1, List.take_left']
  rfl
theorem sess_own.main (a b : Int) (A : Option Addr) (c : Nat) (l : List S34) (w : World) (hr : Kd.C k34 w A l.length l) (hc : l.length ≤ c) (hl : l.length < 1000000) :
    Calls Try.prog 35 #[.agg #[.int .i64 a, .int .i64 b, .slice A l.length c]] w fun e w' => ∃ v2_ : Value, e = .returned (.agg #[.int .i64 a, .int .i64 b, v2_]) ∧ Kd.R k34 34 w' w.heap.size (fun _ => True) v2_ l ∧ Below w.heap.size w w' := by
  refine (sess_own.main0 a b A c l w hr hc hl).mono ?_
  rintro e w' ⟨g, cap, rfl, h1, h2⟩
  exact ⟨_, rfl, h1, h2⟩

def sess_own.f (a0_0 : Int) (a0_1 : Int) (l0_2 : List (S34)) : Option (Int × Int × List (S34)) := if l0_2.length < 1000000 then some (a0_0, a0_1, l0_2) else none
set_option maxHeartbeats 8000000 in
set_option maxRecDepth 100000 in
theorem sess_own.calls (a0_0 : Int) (a0_1 : Int) (A0_2 : Option Addr) (c0_2 : Nat) (l0_2 : List (S34)) (r1 : Int) (r2 : Int) (r3 : List (S34)) (w : World) (hr0_2 : Kd.C k34 w A0_2 l0_2.length l0_2) (hc0_2 : l0_2.length ≤ c0_2) (h : sess_own.f a0_0 a0_1 l0_2 = some (r1, r2, r3)) :
    Calls Try.prog 35 #[.agg #[.int .i64 a0_0, .int .i64 a0_1, .slice A0_2 l0_2.length c0_2]] w fun e w' => ∃ v2_ : Value, e = .returned (.agg #[.int .i64 r1, .int .i64 r2, v2_]) ∧ Kd.R k34 34 w' w.heap.size (fun _ => True) v2_ r3 ∧ Below w.heap.size w w' := by
  unfold sess_own.f at h
  split at h
  · have h1 := Option.some.inj h
    simp only [Prod.mk.injEq] at h1
    obtain ⟨rfl, rfl, rfl⟩ := h1
    exact sess_own.main a0_0 a0_1 A0_2 c0_2 l0_2 w hr0_2 hc0_2 ‹_›
  · cases h

end Go.Proofs.Ytibkmiffibacbaa.Print
