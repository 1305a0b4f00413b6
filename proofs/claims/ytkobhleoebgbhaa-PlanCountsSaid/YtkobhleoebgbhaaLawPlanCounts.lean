/- What is proved: wayfinderlaw20.PlanCounts answers true for every input and leaves its arguments as they were. Conditions: none. -/
import Derived.Test.YtkobhleoebgbhaaRows
import Derived.Test.YtkobhleoebgbhaaVZ
import Derived.Test.YtkobhleoebgbhaaPurePlanCounts
import Derived.WalkKit
import Derived.ProofKit
import Derived.OpenShut
import Derived.ShutString
import Derived.ChangeOld
import Derived.Below
import Derived.SizedLaws
namespace Go.Proofs.Ytkobhleoebgbhaa.planCounts
open Go.ChangeShapes Go.WideShapes Go.ChangeAt Go.RowKit
open Go.ChangeMaps (open_string shut_string)
set_option linter.unusedVariables false
theorem own : ownKnob Try.prog.godebug = none := by kernel_rfl
theorem laidOut : laidOutB Try.prog = true := by kernel_rfl
set_option maxRecDepth 100000 in
theorem lifted (os : Os) (started : os.Started) (H : Type) (enc : TypeId × Value → H) :
    ReturnsInHanded {} Try.checked os 4 .any (Rows.planCountsSpec.pre6 enc Try.prog Try.f4 Rows.planCountsRow.domain false) (Rows.planCountsSpec.post enc Try.prog Try.f4 false true false false) := by
  refine returnsInHanded_of_change_sized (C := Try.checked) own started (by kernel_rfl) Try.func4
    (ChangeSpec.witness6 (enc := enc) (C := Try.checked) false ⟨#[], #[.slice none 0 0, .int .i64 0, .agg #[.int .i64 0, .int .i64 0, .slice none 0 0]], []⟩ 8 (by kernel_rfl) (by kernel_rfl) (by kernel_rfl) (by kernel_rfl)) ?_
  intro W base args ds gs before hval0 hW hcnd _ _
  have hval : ∀ (j : Nat) t v, Try.f4.params[j]? = some t → args[j]? = some v → Value.okWide Try.prog W .any base t v := hval0
  have hW' := hW
  obtain ⟨p, q, hA0, hV, rfl, hfz, hnd⟩ := hW
  have hA : DataW.TrodAll enc Try.prog W 0 (fun _ => true) true Try.f4.params.toList args.toList ds p := hA0
  rw [Try.params4] at hA hval
  obtain ⟨v0, vs0, d0, ds0, p0, q0, hargs, rfl, rfl, h0, r0⟩ := trodAll_cons hA
  obtain ⟨v1, vs1, d1, ds1, p1, q1, rfl, rfl, rfl, h1, r1⟩ := trodAll_cons r0
  obtain ⟨v2, vs2, d2, ds2, p2, q2, rfl, rfl, rfl, h2, r2⟩ := trodAll_cons r1
  obtain ⟨rfl, rfl, rfl⟩ := trodAll_nil r2
  obtain rfl : args = #[v0, v1, v2] := by cases args; simp_all
  obtain ⟨rfl, rfl⟩ := trodVars_none hV
  have g0 := h0
  have lt0 : ∀ x ∈ p0, x.block < W.heap.size := by obtain ⟨m, hm⟩ := g0; exact DataW.trod_lt m _ _ _ hm
  obtain ⟨A0, n0, c0, rfl⟩ := okWide_slice Try.underlying45 (hval 0 45 v0 rfl rfl)
  obtain ⟨fuel0, hf0⟩ := h0
  obtain ⟨x0, hr0, hw0⟩ := (Go.Proofs.Ytkobhleoebgbhaa.V.opens 30 45 (.slice Go.Proofs.Ytkobhleoebgbhaa.V.T814c) (by kernel_rfl)).2 _ _ _ _ _ _ _ _ hf0
  obtain ⟨x1, rfl, rfl, rfl, w1⟩ := open_int Try.underlying3 (hval 1 3 v1 rfl rfl) h1
  have g2 := h2
  have lt2 : ∀ x ∈ p2, x.block < W.heap.size := by obtain ⟨m, hm⟩ := g2; exact DataW.trod_lt m _ _ _ hm
  obtain ⟨cs2, rfl, hs2⟩ := okWide_struct Try.underlying26 (hval 2 26 v2 rfl rfl)
  obtain ⟨fuel2, hf2⟩ := h2
  obtain ⟨x2, hr2, hw2⟩ := (Go.Proofs.Ytkobhleoebgbhaa.V.opens 30 26 Go.Proofs.Ytkobhleoebgbhaa.V.Tb104 (by kernel_rfl)).2 _ _ _ _ _ _ _ _ hf2
  clear hA0 hval0
  obtain ⟨k, hk⟩ := Go.Proofs.Ytkobhleoebgbhaa.V.P_PlanCounts x0 x1 x2 hw0 w1 hw2
  refine (Go.Proofs.Ytkobhleoebgbhaa.V.f_law20_PlanCounts.fits.calls (x0, x1, x2, ()) (true, ()) ⟨k, hk⟩ (fun b => b < W.heap.size) W #[.slice A0 n0 c0, .int .i64 x1, .agg cs2] (fun _ h => h) (And.intro (show Go.Proofs.Ytkobhleoebgbhaa.V.RepC (Go.Proofs.Ytkobhleoebgbhaa.V.E0 _) W _ (Go.Proofs.Ytkobhleoebgbhaa.V.cvOf false [_]) from ⟨by first | exact hr0 | simpa [Value.cells, Go.Proofs.Ytkobhleoebgbhaa.V.E0] using hr0, trivial⟩) (And.intro rfl (And.intro (by have := Go.Proofs.Ytkobhleoebgbhaa.V.RepD.encC_any hr2; rw [show Value.cells (.agg cs2) = cs2 from rfl] at this; exact (show Go.Proofs.Ytkobhleoebgbhaa.V.RepC (Go.Proofs.Ytkobhleoebgbhaa.V.E0 _) W _ (Go.Proofs.Ytkobhleoebgbhaa.V.cvOf true _) by rw [Go.Proofs.Ytkobhleoebgbhaa.V.cvOf_true]; exact ⟨cs2, rfl, this⟩)) trivial)))).mono ?_
  rintro e W' ⟨v, rfl, bel, F', _, _, _, hv⟩
  obtain rfl : v = .bool true := hv
  exact ⟨_, rfl, _, _, _, [], _, [], hW', trodAll_mk1 (shut_bool Try.underlying4 _), (trodAll_cons_mk (Below.trod laidOut (by kernel_rfl) (of_decide_eq_true (by kernel_rfl)) g0 bel lt0) (trodAll_cons_mk (shut_int Try.underlying3 w1) (trodAll_cons_mk (Below.trod laidOut (by kernel_rfl) (of_decide_eq_true (by kernel_rfl)) g2 bel lt2) trodAll_mk0))), rfl, bel.frame _, fun h => by cases h⟩
theorem over : Rows.planCountsRow.holds Try.pinned (OpenSpec.ofChange Rows.planCountsSpec) :=
  OpenClaim.holds_of_wide 4 Try.f4 rfl rfl rfl rfl rfl rfl rfl ⟨rfl, rfl, rfl, rfl, rfl⟩ rfl rfl rfl rfl rfl (by kernel_rfl) Try.func4 (by kernel_rfl)
    (of_decide_eq_true (by kernel_rfl)) (by unfold Func.isWrapper; first | (rw [if_pos (by decide +kernel)]; kernel_rfl) | (rw [if_neg (by decide +kernel)]; exact ⟨rfl, rfl⟩))
    (fun os started H enc _ => lifted os started H enc)
theorem proved : Rows.PlanCountsSaid := over
#print axioms proved
end Go.Proofs.Ytkobhleoebgbhaa.planCounts
namespace Go.Proofs.Ytkobhleoebgbhaa
/-- The row, under a short name, for the claim. -/
theorem planCounts_holds : Rows.PlanCountsSaid := planCounts.proved
end Go.Proofs.Ytkobhleoebgbhaa
