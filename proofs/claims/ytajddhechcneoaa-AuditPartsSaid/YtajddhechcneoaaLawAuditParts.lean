/- What is proved: wayfinderlaw23.AuditParts answers true for every input and leaves its arguments as they were. Conditions: none. -/
import Derived.Test.YtajddhechcneoaaRows
import Derived.Test.YtajddhechcneoaaVZ
import Derived.Test.YtajddhechcneoaaKAuditParts
import Derived.WalkKit
import Derived.ProofKit
import Derived.OpenShut
import Derived.ShutString
import Derived.ChangeOld
import Derived.Below
import Derived.SizedLaws
namespace Go.Proofs.Ytajddhechcneoaa.auditParts
open Go.ChangeShapes Go.WideShapes Go.ChangeAt Go.RowKit
open Go.ChangeMaps (open_string shut_string)
set_option linter.unusedVariables false
theorem own : ownKnob Try.prog.godebug = none := by kernel_rfl
theorem laidOut : laidOutB Try.prog = true := by kernel_rfl
set_option maxRecDepth 100000 in
theorem lifted (os : Os) (started : os.Started) (H : Type) (enc : TypeId × Value → H) :
    ReturnsInHanded {} Try.checked os 5 .any (Rows.auditPartsSpec.pre6 enc Try.prog Try.f5 Rows.auditPartsRow.domain false) (Rows.auditPartsSpec.post enc Try.prog Try.f5 false true false false) := by
  refine returnsInHanded_of_change_sized (C := Try.checked) own started (by kernel_rfl) Try.func5
    (ChangeSpec.witness6 (enc := enc) (C := Try.checked) false ⟨#[], #[.slice none 0 0, .int .i64 0], []⟩ 8 (by kernel_rfl) (by kernel_rfl) (by kernel_rfl) (by kernel_rfl)) ?_
  intro W base args ds gs before hval0 hW hcnd _ _
  have hval : ∀ (j : Nat) t v, Try.f5.params[j]? = some t → args[j]? = some v → Value.okWide Try.prog W .any base t v := hval0
  have hW' := hW
  obtain ⟨p, q, hA0, hV, rfl, hfz, hnd⟩ := hW
  have hA : DataW.TrodAll enc Try.prog W 0 (fun _ => true) true Try.f5.params.toList args.toList ds p := hA0
  rw [Try.params5] at hA hval
  obtain ⟨v0, vs0, d0, ds0, p0, q0, hargs, rfl, rfl, h0, r0⟩ := trodAll_cons hA
  obtain ⟨v1, vs1, d1, ds1, p1, q1, rfl, rfl, rfl, h1, r1⟩ := trodAll_cons r0
  obtain ⟨rfl, rfl, rfl⟩ := trodAll_nil r1
  obtain rfl : args = #[v0, v1] := by cases args; simp_all
  obtain ⟨rfl, rfl⟩ := trodVars_none hV
  have g0 := h0
  have lt0 : ∀ x ∈ p0, x.block < W.heap.size := by obtain ⟨m, hm⟩ := g0; exact DataW.trod_lt m _ _ _ hm
  obtain ⟨A0, n0, c0, rfl⟩ := okWide_slice Try.underlying31 (hval 0 31 v0 rfl rfl)
  obtain ⟨fuel0, hf0⟩ := h0
  obtain ⟨x0, hr0, hw0⟩ := (Go.Proofs.Ytajddhechcneoaa.V.opens 30 31 (.slice Go.Proofs.Ytajddhechcneoaa.V.Td8a9) (by kernel_rfl)).2 _ _ _ _ _ _ _ _ hf0
  obtain ⟨x1, rfl, rfl, rfl, w1⟩ := open_int Try.underlying3 (hval 1 3 v1 rfl rfl) h1
  clear hA0 hval0
  obtain ⟨k, hk⟩ := Go.Proofs.Ytajddhechcneoaa.V.P_AuditParts x0 x1 hw0 w1
  refine (Go.Proofs.Ytajddhechcneoaa.V.f_law23_AuditParts.fits.calls (x0, x1, ()) (true, ()) ⟨k, hk⟩ (fun b => b < W.heap.size) W #[.slice A0 n0 c0, .int .i64 x1] ⟨fun _ h => h, fun g τ xs e => by simp [Go.Proofs.Ytajddhechcneoaa.V.globAt, Go.Proofs.Ytajddhechcneoaa.V.globs] at e⟩ (And.intro (show Go.Proofs.Ytajddhechcneoaa.V.RepC (Go.Proofs.Ytajddhechcneoaa.V.E0 _) W _ (Go.Proofs.Ytajddhechcneoaa.V.cvOf false [_]) from ⟨by first | exact hr0 | simpa [Value.cells, Go.Proofs.Ytajddhechcneoaa.V.E0] using hr0, trivial⟩) (And.intro rfl trivial))).mono ?_
  rintro e W' ⟨v, rfl, bel, F', _, _, _, hv⟩
  obtain rfl : v = .bool true := hv
  exact ⟨_, rfl, _, _, _, [], _, [], hW', trodAll_mk1 (shut_bool Try.underlying4 _), (trodAll_cons_mk (Below.trod laidOut (by kernel_rfl) (of_decide_eq_true (by kernel_rfl)) g0 bel lt0) (trodAll_cons_mk (shut_int Try.underlying3 w1) trodAll_mk0)), rfl, bel.frame _, fun h => by cases h⟩
theorem over : Rows.auditPartsRow.holds Try.pinned (OpenSpec.ofChange Rows.auditPartsSpec) :=
  OpenClaim.holds_of_wide 5 Try.f5 rfl rfl rfl rfl rfl rfl rfl ⟨rfl, rfl, rfl, rfl, rfl⟩ rfl rfl rfl rfl rfl (by kernel_rfl) Try.func5 (by kernel_rfl)
    (of_decide_eq_true (by kernel_rfl)) (by unfold Func.isWrapper; first | (rw [if_pos (by decide +kernel)]; kernel_rfl) | (rw [if_neg (by decide +kernel)]; exact ⟨rfl, rfl⟩))
    (fun os started H enc _ => lifted os started H enc)
theorem proved : Rows.AuditPartsSaid := over
#print axioms proved
end Go.Proofs.Ytajddhechcneoaa.auditParts
namespace Go.Proofs.Ytajddhechcneoaa
/-- The row, under a short name, for the claim. -/
theorem auditParts_holds : Rows.AuditPartsSaid := auditParts.proved
end Go.Proofs.Ytajddhechcneoaa
