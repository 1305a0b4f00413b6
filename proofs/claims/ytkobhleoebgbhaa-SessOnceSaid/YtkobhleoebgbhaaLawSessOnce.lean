/- What is proved: wayfinderlaw15.SessOnce answers true for every input and leaves its arguments as they were. Conditions: none. -/
import Derived.Test.YtkobhleoebgbhaaRows
import Derived.Test.YtkobhleoebgbhaaVZ
import Derived.Test.YtkobhleoebgbhaaPureSessOnce
import Derived.WalkKit
import Derived.ProofKit
import Derived.OpenShut
import Derived.ShutString
import Derived.ChangeOld
import Derived.Below
import Derived.SizedLaws
namespace Go.Proofs.Ytkobhleoebgbhaa.sessOnce
open Go.ChangeShapes Go.WideShapes Go.ChangeAt Go.RowKit
open Go.ChangeMaps (open_string shut_string)
set_option linter.unusedVariables false
theorem own : ownKnob Try.prog.godebug = none := by kernel_rfl
theorem laidOut : laidOutB Try.prog = true := by kernel_rfl
set_option maxRecDepth 100000 in
theorem lifted (os : Os) (started : os.Started) (H : Type) (enc : TypeId × Value → H) :
    ReturnsInHanded {} Try.checked os 3 .any (Rows.sessOnceSpec.pre6 enc Try.prog Try.f3 Rows.sessOnceRow.domain false) (Rows.sessOnceSpec.post enc Try.prog Try.f3 false true false false) := by
  refine returnsInHanded_of_change_sized (C := Try.checked) own started (by kernel_rfl) Try.func3
    (ChangeSpec.witness6 (enc := enc) (C := Try.checked) false ⟨#[], #[.slice none 0 0], []⟩ 8 (by kernel_rfl) (by kernel_rfl) (by kernel_rfl) (by kernel_rfl)) ?_
  intro W base args ds gs before hval0 hW hcnd _ _
  have hval : ∀ (j : Nat) t v, Try.f3.params[j]? = some t → args[j]? = some v → Value.okWide Try.prog W .any base t v := hval0
  have hW' := hW
  obtain ⟨p, q, hA0, hV, rfl, hfz, hnd⟩ := hW
  have hA : DataW.TrodAll enc Try.prog W 0 (fun _ => true) true Try.f3.params.toList args.toList ds p := hA0
  rw [Try.params3] at hA hval
  obtain ⟨v0, vs0, d0, ds0, p0, q0, hargs, rfl, rfl, h0, r0⟩ := trodAll_cons hA
  obtain ⟨rfl, rfl, rfl⟩ := trodAll_nil r0
  obtain rfl : args = #[v0] := by cases args; simp_all
  obtain ⟨rfl, rfl⟩ := trodVars_none hV
  have g0 := h0
  have lt0 : ∀ x ∈ p0, x.block < W.heap.size := by obtain ⟨m, hm⟩ := g0; exact DataW.trod_lt m _ _ _ hm
  obtain ⟨A0, n0, c0, rfl⟩ := okWide_slice Try.underlying22 (hval 0 22 v0 rfl rfl)
  obtain ⟨fuel0, hf0⟩ := h0
  obtain ⟨x0, hr0, hw0⟩ := (Go.Proofs.Ytkobhleoebgbhaa.V.opens 30 22 (.slice Go.Proofs.Ytkobhleoebgbhaa.V.Tf9b7) (by kernel_rfl)).2 _ _ _ _ _ _ _ _ hf0
  clear hA0 hval0
  obtain ⟨k, hk⟩ := Go.Proofs.Ytkobhleoebgbhaa.V.P_SessOnce x0 hw0
  refine (Go.Proofs.Ytkobhleoebgbhaa.V.f_law15_SessOnce.fits.calls (x0, ()) (true, ()) ⟨k, hk⟩ (fun b => b < W.heap.size) W #[.slice A0 n0 c0] (fun _ h => h) (And.intro (show Go.Proofs.Ytkobhleoebgbhaa.V.RepC (Go.Proofs.Ytkobhleoebgbhaa.V.E0 _) W _ (Go.Proofs.Ytkobhleoebgbhaa.V.cvOf false [_]) from ⟨by first | exact hr0 | simpa [Value.cells, Go.Proofs.Ytkobhleoebgbhaa.V.E0] using hr0, trivial⟩) trivial)).mono ?_
  rintro e W' ⟨v, rfl, bel, F', _, _, _, hv⟩
  obtain rfl : v = .bool true := hv
  exact ⟨_, rfl, _, _, _, [], _, [], hW', trodAll_mk1 (shut_bool Try.underlying4 _), (trodAll_cons_mk (Below.trod laidOut (by kernel_rfl) (of_decide_eq_true (by kernel_rfl)) g0 bel lt0) trodAll_mk0), rfl, bel.frame _, fun h => by cases h⟩
theorem over : Rows.sessOnceRow.holds Try.pinned (OpenSpec.ofChange Rows.sessOnceSpec) :=
  OpenClaim.holds_of_wide 3 Try.f3 rfl rfl rfl rfl rfl rfl rfl ⟨rfl, rfl, rfl, rfl, rfl⟩ rfl rfl rfl rfl rfl (by kernel_rfl) Try.func3 (by kernel_rfl)
    (of_decide_eq_true (by kernel_rfl)) (by unfold Func.isWrapper; first | (rw [if_pos (by decide +kernel)]; kernel_rfl) | (rw [if_neg (by decide +kernel)]; exact ⟨rfl, rfl⟩))
    (fun os started H enc _ => lifted os started H enc)
theorem proved : Rows.SessOnceSaid := over
#print axioms proved
end Go.Proofs.Ytkobhleoebgbhaa.sessOnce
namespace Go.Proofs.Ytkobhleoebgbhaa
/-- The row, under a short name, for the claim. -/
theorem sessOnce_holds : Rows.SessOnceSaid := sessOnce.proved
end Go.Proofs.Ytkobhleoebgbhaa
