/- What is proved: wayfinderlaw20.PlanTells answers true for every input and leaves its arguments as they were. Conditions: none. -/
import Derived.Test.YtibkmiffibacbaaRows
import Derived.Test.YtibkmiffibacbaaPrint33
import Derived.Test.YtibkmiffibacbaaPurePlanTells
import Derived.WalkKit
import Derived.ProofKit
import Derived.OpenShut
import Derived.ShutString
import Derived.ChangeOld
import Derived.Below
import Derived.SizedLaws
namespace Go.Proofs.Ytibkmiffibacbaa.planTells
open Go.ChangeShapes Go.WideShapes Go.ChangeAt Go.RowKit
open Go.ChangeMaps (open_string shut_string)
open Go.Proofs.Ytibkmiffibacbaa.Print
open Go.Proofs.YtibkmiffibacbaaW.PrintWords
set_option linter.unusedVariables false
theorem own : ownKnob Try.prog.godebug = none := by kernel_rfl
theorem laidOut : laidOutB Try.prog = true := by kernel_rfl
set_option maxRecDepth 100000 in
theorem lifted (os : Os) (started : os.Started) (H : Type) (enc : TypeId × Value → H) :
    ReturnsInHanded {} Try.checked os 9 .any (Rows.planTellsSpec.pre6 enc Try.prog Try.f9 Rows.planTellsRow.domain false) (Rows.planTellsSpec.post enc Try.prog Try.f9 false true false false) := by
  refine returnsInHanded_of_change_sized (C := Try.checked) own started (by kernel_rfl) Try.func9
    (ChangeSpec.witness6 (enc := enc) (C := Try.checked) false ⟨#[], #[.int .i64 0, .slice none 0 0, .agg #[.int .i64 0, .int .i64 0, .slice none 0 0]], []⟩ 8 (by kernel_rfl) (by kernel_rfl) (by kernel_rfl) (by kernel_rfl)) ?_
  intro W base args ds gs before hval0 hW hcnd _ _
  have hval : ∀ (j : Nat) t v, Try.f9.params[j]? = some t → args[j]? = some v → Value.okWide Try.prog W .any base t v := hval0
  have hW' := hW
  obtain ⟨p, q, hA0, hV, rfl, hfz, hnd⟩ := hW
  have hA : DataW.TrodAll enc Try.prog W 0 (fun _ => true) true Try.f9.params.toList args.toList ds p := hA0
  rw [Try.params9] at hA hval
  obtain ⟨v0, vs0, d0, ds0, p0, q0, hargs, rfl, rfl, h0, r0⟩ := trodAll_cons hA
  obtain ⟨v1, vs1, d1, ds1, p1, q1, rfl, rfl, rfl, h1, r1⟩ := trodAll_cons r0
  obtain ⟨v2, vs2, d2, ds2, p2, q2, rfl, rfl, rfl, h2, r2⟩ := trodAll_cons r1
  obtain ⟨rfl, rfl, rfl⟩ := trodAll_nil r2
  obtain rfl : args = #[v0, v1, v2] := by cases args; simp_all
  obtain ⟨rfl, rfl⟩ := trodVars_none hV
  obtain ⟨a0, rfl, rfl, rfl, w0⟩ := open_int Try.underlying3 (hval 0 3 v0 rfl rfl) h0
  have g1 := h1
  have lt1 : ∀ x ∈ p1, x.block < W.heap.size := by obtain ⟨m, hm⟩ := g1; exact DataW.trod_lt m _ _ _ hm
  obtain ⟨A1, n1, c1, rfl⟩ := okWide_slice Try.underlying22 (hval 1 22 v1 rfl rfl)
  obtain ⟨l1, rfl, hr1, hc1, hw1⟩ : ∃ l : List (S37), n1 = l.length ∧ Kd.C k37 W A1 l.length l ∧ l.length ≤ c1 ∧ (fun l : List (S37) => l.length ≤ maxLen ∧ ∀ x ∈ l, wfT37 x) l := by
    obtain ⟨fuel, hf⟩ := h1
    obtain ⟨l, ⟨A', c', he, hl, hC⟩, hw⟩ := opens_t22.2 _ _ _ _ _ _ _ _ hf
    simp [Value.cells] at he
    obtain ⟨rfl, rfl, rfl⟩ := he
    exact ⟨l, rfl, hC, hl, hw⟩
  have g2 := h2
  have lt2 : ∀ x ∈ p2, x.block < W.heap.size := by obtain ⟨m, hm⟩ := g2; exact DataW.trod_lt m _ _ _ hm
  obtain ⟨cs2, rfl, hs2⟩ := okWide_struct Try.underlying41 (hval 2 41 v2 rfl rfl)
  obtain ⟨fuel2, hf2⟩ := h2
  obtain ⟨x2, hK2, hw2⟩ := opens_t41.2 _ _ _ _ _ _ _ _ hf2
  obtain ⟨A2_2, c2_2, he2, hc2_2, hr2_2⟩ := k41_open hK2
  have ha2 : cs2 = #[.int .i64 x2.f0, .int .i64 x2.f1, .slice A2_2 x2.f2.length c2_2] := by
    have z : cs2.toList = _ := he2
    rw [← Array.toArray_toList (xs := cs2), z]
  subst ha2
  clear hA0 hval0
  refine (Print.wayfinderlaw20_PlanTells.walk Pure.PlanTells a0 A1 c1 l1 x2.f0 x2.f1 A2_2 c2_2 x2.f2 W hr1 hc1 hr2_2 hc2_2 w0 hw1.1 hw1.2 hw2.1 hw2.2.1 hw2.2.2.1 hw2.2.2.2).mono fun e W' ⟨he, bel⟩ => ?_
  subst he
  exact ⟨_, rfl, _, _, _, [], _, [], hW', trodAll_mk1 (shut_bool Try.underlying4 _), (trodAll_cons_mk (shut_int Try.underlying3 w0) (trodAll_cons_mk (Below.trod laidOut (by kernel_rfl) (of_decide_eq_true (by kernel_rfl)) g1 bel lt1) (trodAll_cons_mk (Below.trod laidOut (by kernel_rfl) (of_decide_eq_true (by kernel_rfl)) g2 bel lt2) trodAll_mk0))), rfl, bel.frame _, fun h => by cases h⟩
theorem over : Rows.planTellsRow.holds Try.pinned (OpenSpec.ofChange Rows.planTellsSpec) :=
  OpenClaim.holds_of_wide 9 Try.f9 rfl rfl rfl rfl rfl rfl rfl ⟨rfl, rfl, rfl, rfl, rfl⟩ rfl rfl rfl rfl rfl (by kernel_rfl) Try.func9 (by kernel_rfl)
    (of_decide_eq_true (by kernel_rfl)) (by unfold Func.isWrapper; first | (rw [if_pos (by decide +kernel)]; kernel_rfl) | (rw [if_neg (by decide +kernel)]; exact ⟨rfl, rfl⟩))
    (fun os started H enc _ => lifted os started H enc)
theorem proved : Rows.PlanTellsSaid := over
#print axioms proved
end Go.Proofs.Ytibkmiffibacbaa.planTells
namespace Go.Proofs.Ytibkmiffibacbaa
/-- The row, under a short name, for the claim. -/
theorem planTells_holds : Rows.PlanTellsSaid := planTells.proved
end Go.Proofs.Ytibkmiffibacbaa
