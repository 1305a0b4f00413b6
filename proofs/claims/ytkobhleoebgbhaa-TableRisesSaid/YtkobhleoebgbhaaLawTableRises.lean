/- What is proved: wayfinderlaw09.TableRises answers true for every input and leaves its arguments as they were. Conditions: none. -/
import Derived.Test.YtkobhleoebgbhaaRows
import Derived.Test.YtkobhleoebgbhaaVZ
import Derived.Test.YtkobhleoebgbhaaPureTableRises
import Derived.WalkKit
import Derived.ProofKit
import Derived.OpenShut
import Derived.ShutString
import Derived.ChangeOld
import Derived.Below
import Derived.SizedLaws
namespace Go.Proofs.Ytkobhleoebgbhaa.tableRises
open Go.ChangeShapes Go.WideShapes Go.ChangeAt Go.RowKit
open Go.ChangeMaps (open_string shut_string)
set_option linter.unusedVariables false
theorem own : ownKnob Try.prog.godebug = none := by kernel_rfl
theorem laidOut : laidOutB Try.prog = true := by kernel_rfl
set_option maxRecDepth 100000 in
theorem lifted (os : Os) (started : os.Started) (H : Type) (enc : TypeId × Value → H) :
    ReturnsInHanded {} Try.checked os 8 .any (Rows.tableRisesSpec.pre6 enc Try.prog Try.f8 Rows.tableRisesRow.domain false) (Rows.tableRisesSpec.post enc Try.prog Try.f8 false true false false) := by
  refine returnsInHanded_of_change_sized (C := Try.checked) own started (by kernel_rfl) Try.func8
    (ChangeSpec.witness6 (enc := enc) (C := Try.checked) false ⟨#[], #[.slice none 0 0, .slice none 0 0, .int .i64 0], []⟩ 8 (by kernel_rfl) (by kernel_rfl) (by kernel_rfl) (by kernel_rfl)) ?_
  intro W base args ds gs before hval0 hW hcnd _ _
  have hval : ∀ (j : Nat) t v, Try.f8.params[j]? = some t → args[j]? = some v → Value.okWide Try.prog W .any base t v := hval0
  have hW' := hW
  obtain ⟨p, q, hA0, hV, rfl, hfz, hnd⟩ := hW
  have hA : DataW.TrodAll enc Try.prog W 0 (fun _ => true) true Try.f8.params.toList args.toList ds p := hA0
  rw [Try.params8] at hA hval
  obtain ⟨v0, vs0, d0, ds0, p0, q0, hargs, rfl, rfl, h0, r0⟩ := trodAll_cons hA
  obtain ⟨v1, vs1, d1, ds1, p1, q1, rfl, rfl, rfl, h1, r1⟩ := trodAll_cons r0
  obtain ⟨v2, vs2, d2, ds2, p2, q2, rfl, rfl, rfl, h2, r2⟩ := trodAll_cons r1
  obtain ⟨rfl, rfl, rfl⟩ := trodAll_nil r2
  obtain rfl : args = #[v0, v1, v2] := by cases args; simp_all
  obtain ⟨rfl, rfl⟩ := trodVars_none hV
  have g0 := h0
  have lt0 : ∀ x ∈ p0, x.block < W.heap.size := by obtain ⟨m, hm⟩ := g0; exact DataW.trod_lt m _ _ _ hm
  obtain ⟨A0, n0, c0, rfl⟩ := okWide_slice Try.underlying47 (hval 0 47 v0 rfl rfl)
  obtain ⟨fuel0, hf0⟩ := h0
  obtain ⟨x0, hr0, hw0⟩ := (Go.Proofs.Ytkobhleoebgbhaa.V.opens 30 47 (.slice Go.Proofs.Ytkobhleoebgbhaa.V.T1383) (by kernel_rfl)).2 _ _ _ _ _ _ _ _ hf0
  have g1 := h1
  have lt1 : ∀ x ∈ p1, x.block < W.heap.size := by obtain ⟨m, hm⟩ := g1; exact DataW.trod_lt m _ _ _ hm
  obtain ⟨A1, n1, c1, rfl⟩ := okWide_slice Try.underlying28 (hval 1 28 v1 rfl rfl)
  obtain ⟨fuel1, hf1⟩ := h1
  obtain ⟨x1, hr1, hw1⟩ := (Go.Proofs.Ytkobhleoebgbhaa.V.opens 30 28 (.slice (.int .i64)) (by kernel_rfl)).2 _ _ _ _ _ _ _ _ hf1
  obtain ⟨x2, rfl, rfl, rfl, w2⟩ := open_int Try.underlying3 (hval 2 3 v2 rfl rfl) h2
  clear hA0 hval0
  obtain ⟨k, hk⟩ := Go.Proofs.Ytkobhleoebgbhaa.V.P_TableRises x0 x1 x2 hw0 hw1 w2
  refine (Go.Proofs.Ytkobhleoebgbhaa.V.f_law09_TableRises.fits.calls (x0, x1, x2, ()) (true, ()) ⟨k, hk⟩ (fun b => b < W.heap.size) W #[.slice A0 n0 c0, .slice A1 n1 c1, .int .i64 x2] (fun _ h => h) (And.intro (show Go.Proofs.Ytkobhleoebgbhaa.V.RepC (Go.Proofs.Ytkobhleoebgbhaa.V.E0 _) W _ (Go.Proofs.Ytkobhleoebgbhaa.V.cvOf false [_]) from ⟨by first | exact hr0 | simpa [Value.cells, Go.Proofs.Ytkobhleoebgbhaa.V.E0] using hr0, trivial⟩) (And.intro (show Go.Proofs.Ytkobhleoebgbhaa.V.RepC (Go.Proofs.Ytkobhleoebgbhaa.V.E0 _) W _ (Go.Proofs.Ytkobhleoebgbhaa.V.cvOf false [_]) from ⟨by first | exact hr1 | simpa [Value.cells, Go.Proofs.Ytkobhleoebgbhaa.V.E0] using hr1, trivial⟩) (And.intro rfl trivial)))).mono ?_
  rintro e W' ⟨v, rfl, bel, F', _, _, _, hv⟩
  obtain rfl : v = .bool true := hv
  exact ⟨_, rfl, _, _, _, [], _, [], hW', trodAll_mk1 (shut_bool Try.underlying4 _), (trodAll_cons_mk (Below.trod laidOut (by kernel_rfl) (of_decide_eq_true (by kernel_rfl)) g0 bel lt0) (trodAll_cons_mk (Below.trod laidOut (by kernel_rfl) (of_decide_eq_true (by kernel_rfl)) g1 bel lt1) (trodAll_cons_mk (shut_int Try.underlying3 w2) trodAll_mk0))), rfl, bel.frame _, fun h => by cases h⟩
theorem over : Rows.tableRisesRow.holds Try.pinned (OpenSpec.ofChange Rows.tableRisesSpec) :=
  OpenClaim.holds_of_wide 8 Try.f8 rfl rfl rfl rfl rfl rfl rfl ⟨rfl, rfl, rfl, rfl, rfl⟩ rfl rfl rfl rfl rfl (by kernel_rfl) Try.func8 (by kernel_rfl)
    (of_decide_eq_true (by kernel_rfl)) (by unfold Func.isWrapper; first | (rw [if_pos (by decide +kernel)]; kernel_rfl) | (rw [if_neg (by decide +kernel)]; exact ⟨rfl, rfl⟩))
    (fun os started H enc _ => lifted os started H enc)
theorem proved : Rows.TableRisesSaid := over
#print axioms proved
end Go.Proofs.Ytkobhleoebgbhaa.tableRises
namespace Go.Proofs.Ytkobhleoebgbhaa
/-- The row, under a short name, for the claim. -/
theorem tableRises_holds : Rows.TableRisesSaid := tableRises.proved
end Go.Proofs.Ytkobhleoebgbhaa
