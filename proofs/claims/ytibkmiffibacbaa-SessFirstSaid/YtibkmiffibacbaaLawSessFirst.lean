/- What is proved: wayfinderlaw15.SessFirst answers true for every input and leaves its arguments as they were. Conditions: none. -/
import Derived.Test.YtibkmiffibacbaaRows
import Derived.Test.YtibkmiffibacbaaPrint18
import Derived.Test.YtibkmiffibacbaaPureSessFirst
import Derived.WalkKit
import Derived.ProofKit
import Derived.OpenShut
import Derived.ShutString
import Derived.ChangeOld
import Derived.Below
import Derived.SizedLaws
namespace Go.Proofs.Ytibkmiffibacbaa.sessFirst
open Go.ChangeShapes Go.WideShapes Go.ChangeAt Go.RowKit
open Go.ChangeMaps (open_string shut_string)
open Go.Proofs.Ytibkmiffibacbaa.Print
open Go.Proofs.YtibkmiffibacbaaW.PrintWords
set_option linter.unusedVariables false
theorem own : ownKnob Try.prog.godebug = none := by kernel_rfl
theorem laidOut : laidOutB Try.prog = true := by kernel_rfl
set_option maxRecDepth 100000 in
theorem lifted (os : Os) (started : os.Started) (H : Type) (enc : TypeId × Value → H) :
    ReturnsInHanded {} Try.checked os 8 .any (Rows.sessFirstSpec.pre6 enc Try.prog Try.f8 Rows.sessFirstRow.domain false) (Rows.sessFirstSpec.post enc Try.prog Try.f8 false true false false) := by
  refine returnsInHanded_of_change_sized (C := Try.checked) own started (by kernel_rfl) Try.func8
    (ChangeSpec.witness6 (enc := enc) (C := Try.checked) false ⟨#[], #[.agg #[.int .i64 0, .int .i64 0, .slice none 0 0], .agg #[.int .i64 0, .int .i64 0, .int .i64 0, .int .i64 0, .int .i64 0, .int .i64 0, .int .i64 0, .int .i64 0, .int .i64 0, .int .i64 0], .int .i64 0], []⟩ 8 (by kernel_rfl) (by kernel_rfl) (by kernel_rfl) (by kernel_rfl)) ?_
  intro W base args ds gs before hval0 hW hcnd _ _
  have hval : ∀ (j : Nat) t v, Try.f8.params[j]? = some t → args[j]? = some v → Value.okWide Try.prog W .any base t v := hval0
  have hW' := hW
  obtain ⟨p, q, hA0, hV, rfl, hfz, hnd⟩ := hW
  have hA : DataW.TrodAll enc Try.prog W 0 (fun _ => true) true Try.f8.params.toList args.toList ds p := hA0
  rw [Try.params8] at hA hval
  obtain ⟨v0, vs0, d0, ds0, p0, q0, hargs, rfl, rfl, h0, r0⟩ := trodAll_cons hA
  obtain ⟨v1, vs1, d1, ds1, p1, q1, rfl, rfl, rfl, h1, r1⟩ := trodAll_cons r0
  obtain ⟨v2, vs2, d2, ds2, p2, q2, rfl, rfl, rfl, h2, r2⟩ := trodAll_cons r1
  obtain ⟨rfl, rfl, rfl⟩ := trodAll_nil r2
  obtain rfl : args = #[v0, v1, v2] := by cases args; simp_all
  obtain ⟨rfl, rfl⟩ := trodVars_none hV
  have g0 := h0
  have lt0 : ∀ x ∈ p0, x.block < W.heap.size := by obtain ⟨m, hm⟩ := g0; exact DataW.trod_lt m _ _ _ hm
  obtain ⟨cs0, rfl, hs0⟩ := okWide_struct Try.underlying41 (hval 0 41 v0 rfl rfl)
  obtain ⟨fuel0, hf0⟩ := h0
  obtain ⟨x0, hK0, hw0⟩ := opens_t41.2 _ _ _ _ _ _ _ _ hf0
  obtain ⟨A0_2, c0_2, he0, hc0_2, hr0_2⟩ := k41_open hK0
  have ha0 : cs0 = #[.int .i64 x0.f0, .int .i64 x0.f1, .slice A0_2 x0.f2.length c0_2] := by
    have z : cs0.toList = _ := he0
    rw [← Array.toArray_toList (xs := cs0), z]
  subst ha0
  have g1 := h1
  have lt1 : ∀ x ∈ p1, x.block < W.heap.size := by obtain ⟨m, hm⟩ := g1; exact DataW.trod_lt m _ _ _ hm
  obtain ⟨cs1, rfl, hs1⟩ := okWide_struct Try.underlying34 (hval 1 34 v1 rfl rfl)
  obtain ⟨fuel1, hf1⟩ := h1
  obtain ⟨x1, hK1, hw1⟩ := opens_t34.2 _ _ _ _ _ _ _ _ hf1
  have he1 := k34_open hK1
  have ha1 : cs1 = #[.int .i64 x1.f0, .int .i64 x1.f1, .int .i64 x1.f2, .int .i64 x1.f3, .int .i64 x1.f4.f0.f0, .int .i64 x1.f4.f0.f1, .int .i64 x1.f4.f1, .int .i64 x1.f4.f2, .int .i64 x1.f4.f3.f0, .int .i64 x1.f4.f3.f1] := by
    have z : cs1.toList = _ := he1
    rw [← Array.toArray_toList (xs := cs1), z]
  subst ha1
  obtain ⟨a2, rfl, rfl, rfl, w2⟩ := open_int Try.underlying3 (hval 2 3 v2 rfl rfl) h2
  clear hA0 hval0
  refine (Print.wayfinderlaw15_SessFirst.walk Pure.SessFirst x0.f0 x0.f1 A0_2 c0_2 x0.f2 x1.f0 x1.f1 x1.f2 x1.f3 x1.f4.f0.f0 x1.f4.f0.f1 x1.f4.f1 x1.f4.f2 x1.f4.f3.f0 x1.f4.f3.f1 a2 W hr0_2 hc0_2 hw0.1 hw0.2.1 hw0.2.2.1 hw0.2.2.2 hw1.1 hw1.2.1 hw1.2.2.1 hw1.2.2.2.1 hw1.2.2.2.2.1.1 hw1.2.2.2.2.1.2 hw1.2.2.2.2.2.1 hw1.2.2.2.2.2.2.1 hw1.2.2.2.2.2.2.2.1 hw1.2.2.2.2.2.2.2.2 w2).mono fun e W' ⟨he, bel⟩ => ?_
  subst he
  exact ⟨_, rfl, _, _, _, [], _, [], hW', trodAll_mk1 (shut_bool Try.underlying4 _), (trodAll_cons_mk (Below.trod laidOut (by kernel_rfl) (of_decide_eq_true (by kernel_rfl)) g0 bel lt0) (trodAll_cons_mk (Below.trod laidOut (by kernel_rfl) (of_decide_eq_true (by kernel_rfl)) g1 bel lt1) (trodAll_cons_mk (shut_int Try.underlying3 w2) trodAll_mk0))), rfl, bel.frame _, fun h => by cases h⟩
theorem over : Rows.sessFirstRow.holds Try.pinned (OpenSpec.ofChange Rows.sessFirstSpec) :=
  OpenClaim.holds_of_wide 8 Try.f8 rfl rfl rfl rfl rfl rfl rfl ⟨rfl, rfl, rfl, rfl, rfl⟩ rfl rfl rfl rfl rfl (by kernel_rfl) Try.func8 (by kernel_rfl)
    (of_decide_eq_true (by kernel_rfl)) (by unfold Func.isWrapper; first | (rw [if_pos (by decide +kernel)]; kernel_rfl) | (rw [if_neg (by decide +kernel)]; exact ⟨rfl, rfl⟩))
    (fun os started H enc _ => lifted os started H enc)
theorem proved : Rows.SessFirstSaid := over
#print axioms proved
end Go.Proofs.Ytibkmiffibacbaa.sessFirst
namespace Go.Proofs.Ytibkmiffibacbaa
/-- The row, under a short name, for the claim. -/
theorem sessFirst_holds : Rows.SessFirstSaid := sessFirst.proved
end Go.Proofs.Ytibkmiffibacbaa
