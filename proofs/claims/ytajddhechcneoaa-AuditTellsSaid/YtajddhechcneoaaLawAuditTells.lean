/- What is proved: wayfinderlaw23.AuditTells answers true for every input and leaves its arguments as they were. Conditions: none. -/
import Derived.Test.YtajddhechcneoaaRows
import Derived.Test.YtajddhechcneoaaVZ
import Derived.Test.YtajddhechcneoaaKAuditTells
import Derived.WalkKit
import Derived.ProofKit
import Derived.OpenShut
import Derived.ShutString
import Derived.ChangeOld
import Derived.Below
import Derived.SizedLaws
namespace Go.Proofs.Ytajddhechcneoaa.auditTells
open Go.ChangeShapes Go.WideShapes Go.ChangeAt Go.RowKit
open Go.ChangeMaps (open_string shut_string)
set_option linter.unusedVariables false
theorem own : ownKnob Try.prog.godebug = none := by kernel_rfl
theorem laidOut : laidOutB Try.prog = true := by kernel_rfl
set_option maxRecDepth 100000 in
theorem lifted (os : Os) (started : os.Started) (H : Type) (enc : TypeId × Value → H) :
    ReturnsInHanded {} Try.checked os 3 .any (Rows.auditTellsSpec.pre6 enc Try.prog Try.f3 Rows.auditTellsRow.domain false) (Rows.auditTellsSpec.post enc Try.prog Try.f3 false true false false) := by
  refine returnsInHanded_of_change_sized (C := Try.checked) own started (by kernel_rfl) Try.func3
    (ChangeSpec.witness6 (enc := enc) (C := Try.checked) false ⟨#[], #[.agg #[.int .i64 0, .int .i64 0, .slice none 0 0], .slice none 0 0, .agg #[.int .i64 0, .int .i64 0, .int .i64 0, .int .i64 0, .int .i64 0, .int .i64 0, .int .i64 0], .slice none 0 0, .int .i64 0], []⟩ 8 (by kernel_rfl) (by kernel_rfl) (by kernel_rfl) (by kernel_rfl)) ?_
  intro W base args ds gs before hval0 hW hcnd _ _
  have hval : ∀ (j : Nat) t v, Try.f3.params[j]? = some t → args[j]? = some v → Value.okWide Try.prog W .any base t v := hval0
  have hW' := hW
  obtain ⟨p, q, hA0, hV, rfl, hfz, hnd⟩ := hW
  have hA : DataW.TrodAll enc Try.prog W 0 (fun _ => true) true Try.f3.params.toList args.toList ds p := hA0
  rw [Try.params3] at hA hval
  obtain ⟨v0, vs0, d0, ds0, p0, q0, hargs, rfl, rfl, h0, r0⟩ := trodAll_cons hA
  obtain ⟨v1, vs1, d1, ds1, p1, q1, rfl, rfl, rfl, h1, r1⟩ := trodAll_cons r0
  obtain ⟨v2, vs2, d2, ds2, p2, q2, rfl, rfl, rfl, h2, r2⟩ := trodAll_cons r1
  obtain ⟨v3, vs3, d3, ds3, p3, q3, rfl, rfl, rfl, h3, r3⟩ := trodAll_cons r2
  obtain ⟨v4, vs4, d4, ds4, p4, q4, rfl, rfl, rfl, h4, r4⟩ := trodAll_cons r3
  obtain ⟨rfl, rfl, rfl⟩ := trodAll_nil r4
  obtain rfl : args = #[v0, v1, v2, v3, v4] := by cases args; simp_all
  obtain ⟨rfl, rfl⟩ := trodVars_none hV
  have g0 := h0
  have lt0 : ∀ x ∈ p0, x.block < W.heap.size := by obtain ⟨m, hm⟩ := g0; exact DataW.trod_lt m _ _ _ hm
  obtain ⟨cs0, rfl, hs0⟩ := okWide_struct Try.underlying24 (hval 0 24 v0 rfl rfl)
  obtain ⟨fuel0, hf0⟩ := h0
  obtain ⟨x0, hr0, hw0⟩ := (Go.Proofs.Ytajddhechcneoaa.V.opens 30 24 Go.Proofs.Ytajddhechcneoaa.V.T5477 (by kernel_rfl)).2 _ _ _ _ _ _ _ _ hf0
  have g1 := h1
  have lt1 : ∀ x ∈ p1, x.block < W.heap.size := by obtain ⟨m, hm⟩ := g1; exact DataW.trod_lt m _ _ _ hm
  obtain ⟨A1, n1, c1, rfl⟩ := okWide_slice Try.underlying26 (hval 1 26 v1 rfl rfl)
  obtain ⟨fuel1, hf1⟩ := h1
  obtain ⟨x1, hr1, hw1⟩ := (Go.Proofs.Ytajddhechcneoaa.V.opens 30 26 (.slice (.slice Go.Proofs.Ytajddhechcneoaa.V.T1383)) (by kernel_rfl)).2 _ _ _ _ _ _ _ _ hf1
  have g2 := h2
  have lt2 : ∀ x ∈ p2, x.block < W.heap.size := by obtain ⟨m, hm⟩ := g2; exact DataW.trod_lt m _ _ _ hm
  obtain ⟨cs2, rfl, hs2⟩ := okWide_struct Try.underlying30 (hval 2 30 v2 rfl rfl)
  obtain ⟨fuel2, hf2⟩ := h2
  obtain ⟨x2, hr2, hw2⟩ := (Go.Proofs.Ytajddhechcneoaa.V.opens 30 30 Go.Proofs.Ytajddhechcneoaa.V.T70a7 (by kernel_rfl)).2 _ _ _ _ _ _ _ _ hf2
  have g3 := h3
  have lt3 : ∀ x ∈ p3, x.block < W.heap.size := by obtain ⟨m, hm⟩ := g3; exact DataW.trod_lt m _ _ _ hm
  obtain ⟨A3, n3, c3, rfl⟩ := okWide_slice Try.underlying31 (hval 3 31 v3 rfl rfl)
  obtain ⟨fuel3, hf3⟩ := h3
  obtain ⟨x3, hr3, hw3⟩ := (Go.Proofs.Ytajddhechcneoaa.V.opens 30 31 (.slice Go.Proofs.Ytajddhechcneoaa.V.Td8a9) (by kernel_rfl)).2 _ _ _ _ _ _ _ _ hf3
  obtain ⟨x4, rfl, rfl, rfl, w4⟩ := open_int Try.underlying3 (hval 4 3 v4 rfl rfl) h4
  clear hA0 hval0
  obtain ⟨k, hk⟩ := Go.Proofs.Ytajddhechcneoaa.V.P_AuditTells x0 x1 x2 x3 x4 hw0 hw1 hw2 hw3 w4
  refine (Go.Proofs.Ytajddhechcneoaa.V.f_law23_AuditTells.fits.calls (x0, x1, x2, x3, x4, ()) (true, ()) ⟨k, hk⟩ (fun b => b < W.heap.size) W #[.agg cs0, .slice A1 n1 c1, .agg cs2, .slice A3 n3 c3, .int .i64 x4] ⟨fun _ h => h, fun g τ xs e => by simp [Go.Proofs.Ytajddhechcneoaa.V.globAt, Go.Proofs.Ytajddhechcneoaa.V.globs] at e⟩ (And.intro (by have := Go.Proofs.Ytajddhechcneoaa.V.RepD.encC_any hr0; rw [show Value.cells (.agg cs0) = cs0 from rfl] at this; exact (show Go.Proofs.Ytajddhechcneoaa.V.RepC (Go.Proofs.Ytajddhechcneoaa.V.E0 _) W _ (Go.Proofs.Ytajddhechcneoaa.V.cvOf true _) by rw [Go.Proofs.Ytajddhechcneoaa.V.cvOf_true]; exact ⟨cs0, rfl, this⟩)) (And.intro (show Go.Proofs.Ytajddhechcneoaa.V.RepC (Go.Proofs.Ytajddhechcneoaa.V.E0 _) W _ (Go.Proofs.Ytajddhechcneoaa.V.cvOf false [_]) from ⟨by first | exact hr1 | simpa [Value.cells, Go.Proofs.Ytajddhechcneoaa.V.E0] using hr1, trivial⟩) (And.intro (by have := Go.Proofs.Ytajddhechcneoaa.V.RepD.encC_any hr2; rw [show Value.cells (.agg cs2) = cs2 from rfl] at this; exact (show Go.Proofs.Ytajddhechcneoaa.V.RepC (Go.Proofs.Ytajddhechcneoaa.V.E0 _) W _ (Go.Proofs.Ytajddhechcneoaa.V.cvOf true _) by rw [Go.Proofs.Ytajddhechcneoaa.V.cvOf_true]; exact ⟨cs2, rfl, this⟩)) (And.intro (show Go.Proofs.Ytajddhechcneoaa.V.RepC (Go.Proofs.Ytajddhechcneoaa.V.E0 _) W _ (Go.Proofs.Ytajddhechcneoaa.V.cvOf false [_]) from ⟨by first | exact hr3 | simpa [Value.cells, Go.Proofs.Ytajddhechcneoaa.V.E0] using hr3, trivial⟩) (And.intro rfl trivial)))))).mono ?_
  rintro e W' ⟨v, rfl, bel, F', _, _, _, hv⟩
  obtain rfl : v = .bool true := hv
  exact ⟨_, rfl, _, _, _, [], _, [], hW', trodAll_mk1 (shut_bool Try.underlying4 _), (trodAll_cons_mk (Below.trod laidOut (by kernel_rfl) (of_decide_eq_true (by kernel_rfl)) g0 bel lt0) (trodAll_cons_mk (Below.trod laidOut (by kernel_rfl) (of_decide_eq_true (by kernel_rfl)) g1 bel lt1) (trodAll_cons_mk (Below.trod laidOut (by kernel_rfl) (of_decide_eq_true (by kernel_rfl)) g2 bel lt2) (trodAll_cons_mk (Below.trod laidOut (by kernel_rfl) (of_decide_eq_true (by kernel_rfl)) g3 bel lt3) (trodAll_cons_mk (shut_int Try.underlying3 w4) trodAll_mk0))))), rfl, bel.frame _, fun h => by cases h⟩
theorem over : Rows.auditTellsRow.holds Try.pinned (OpenSpec.ofChange Rows.auditTellsSpec) :=
  OpenClaim.holds_of_wide 3 Try.f3 rfl rfl rfl rfl rfl rfl rfl ⟨rfl, rfl, rfl, rfl, rfl⟩ rfl rfl rfl rfl rfl (by kernel_rfl) Try.func3 (by kernel_rfl)
    (of_decide_eq_true (by kernel_rfl)) (by unfold Func.isWrapper; first | (rw [if_pos (by decide +kernel)]; kernel_rfl) | (rw [if_neg (by decide +kernel)]; exact ⟨rfl, rfl⟩))
    (fun os started H enc _ => lifted os started H enc)
theorem proved : Rows.AuditTellsSaid := over
#print axioms proved
end Go.Proofs.Ytajddhechcneoaa.auditTells
namespace Go.Proofs.Ytajddhechcneoaa
/-- The row, under a short name, for the claim. -/
theorem auditTells_holds : Rows.AuditTellsSaid := auditTells.proved
end Go.Proofs.Ytajddhechcneoaa
