/- A text that a program of this session printed out of the translation: checked by Lean alone. -/
import Derived.Test.YtibkmiffibacbaaPrint0
import Derived.Test.YtibkmiffibacbaaPrintH
namespace Go.Proofs.Ytibkmiffibacbaa.Print
open Go.RowKit Go.Proofs.YtibkmiffibacbaaW.PrintWords Go.Proofs.YtibkmiffibacbaaW.PrintLast Go.Proofs.YtibkmiffibacbaaW.PrintMore
attribute [local go_sem] max2_int min2_int max_two min_two max_three min_three max_four min_four   -- for this text's walks alone
set_option linter.unusedVariables false
set_option linter.unusedSimpArgs false

/-! ### api_Msg_38: function 38 -/
set_option maxHeartbeats 8000000 in
set_option maxRecDepth 100000 in
theorem api_Msg_38.main (A0 : Option Addr) (c0 : Nat) (l0 : List (S34)) (w : World) (hr0 : Kd.C k34 w A0 l0.length l0) (hc0 : l0.length ≤ c0) (hm : l0.length < 1759218604441) :
    Calls Try.prog 38 #[.slice A0 l0.length c0] w fun e w' => ∃ v0_ : Value, e = .returned (v0_) ∧ Kd.R k34 34 w' w.heap.size (fun _ => True) v0_ l0 ∧ Below w.heap.size w w' := by
  have hu := Try.underlying25
  cases A0 with
  | none =>
    have h0 := C_none hr0
    subst h0
    clear hr0
    have hnil := fun w' => Lib.run_eql_slice_nil (P := Try.prog) w' 25 34 none 0 c0 0 0 hu
    clear hu
    go_enter Try.func38, Try.ntmps38
    go_wp2
    go_ret
    exact ⟨_, rfl, Kd.R_nil _ _ _ _ _, Below.refl _ _⟩
  | some a =>
    have HR := Aside0.mk hr0
    have HC := Aside0.mk hc0
    have HM := Aside0.mk hm
    clear hr0 hc0 hm
    have hnil := fun w' => Lib.run_eql_slice_nil (P := Try.prog) w' 25 34 (some a) l0.length c0 0 0 hu
    clear hu
    go_enter Try.func38, Try.ntmps38
    go_wp2_with (first | ((with_reducible refine gate_builtin (b := .append) (xs := #[.tmp 5, .tmp 6]) rfl ?_); at_builtin; refine Kd.R_append_rows k34 (w0 := w) w.heap.size rfl (.tmp 5) (.tmp 6) 25 34 (.agg #[(.int .i64 0), (.int .i64 0), (.int .i64 0), (.int .i64 0), (.int .i64 0), (.int .i64 0), (.int .i64 0), (.int .i64 0), (.int .i64 0), (.int .i64 0)]) 80 rfl Try.underlying25 info34 rfl (by decide) (by omega) (.slice (some ⟨w.heap.size, 0, none⟩) 0 0) [] l0 _ _ _ (fun _ => True) (fun _ => False) rfl rfl (R_empty _ _ _ _ (Nat.le_refl _)) (Kd.C_alloc HR.out _) (fun _ _ h => h) (fun _ h => h.elim) (fun _ _ => trivial) (below_alloc (Below.refl _ _) _) ?aS ?aL ?_; (case aS => simp); (case aL => have := HM.out; simp; omega); intro v1 w1 ho hb hg hat; simp only [List.nil_append] at ho))
    go_ret
    exact ⟨_, rfl, ho, hb⟩

def api_Msg_38.f (l0 : List (S34)) : Option (List (S34)) := if l0.length < 1759218604441 then some l0 else none
set_option maxHeartbeats 8000000 in
set_option maxRecDepth 100000 in
theorem api_Msg_38.calls (A0 : Option Addr) (c0 : Nat) (l0 : List (S34)) (r : List (S34)) (w : World) (hr0 : Kd.C k34 w A0 l0.length l0) (hc0 : l0.length ≤ c0) (h : api_Msg_38.f l0 = some r) :
    Calls Try.prog 38 #[.slice A0 l0.length c0] w fun e w' => ∃ v0_ : Value, e = .returned (v0_) ∧ Kd.R k34 34 w' w.heap.size (fun _ => True) v0_ r ∧ Below w.heap.size w w' := by
  unfold api_Msg_38.f at h
  split at h
  · obtain rfl := Option.some.inj h
    exact api_Msg_38.main A0 c0 l0 w hr0 hc0 ‹_›
  · cases h

end Go.Proofs.Ytibkmiffibacbaa.Print
