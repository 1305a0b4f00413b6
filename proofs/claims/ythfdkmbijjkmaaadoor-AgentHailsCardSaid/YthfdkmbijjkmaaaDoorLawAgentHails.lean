/- What is proved: wayfinderlaw17.AgentHails answers true for every input and leaves its arguments as they were. Conditions: none. -/
import Derived.Test.YthfdkmbijjkmaaaDoorRows
import Derived.Test.YthfdkmbijjkmaaaDoorCards
import Derived.Test.YthfdkmbijjkmaaaDoorTie
import Derived.Test.YthfdkmbijjkmaaaDoorVZL
import Derived.Test.YthfdkmbijjkmaaaDoorKAgentHails
import Derived.ChangeSame
import Derived.ChangeVars
import Derived.LaidLaws
import Derived.LaidMore
import Derived.LaidOnce
import Derived.JoinedOf
import Derived.SevenTiedAt
import Derived.Stop.Joined
import Derived.WalkKit
import Derived.ProofKit
import Derived.OpenShut
import Derived.ShutString
import Derived.ChangeOld
import Derived.Below
import Derived.SizedLaws
namespace Go.Proofs.YthfdkmbijjkmaaaDoor.agentHails
open Go.ChangeShapes Go.WideShapes Go.ChangeAt Go.RowKit
open Go.ChangeMaps (open_string shut_string)
set_option linter.unusedVariables false
theorem own : ownKnob Tryd.prog.godebug = none := by kernel_rfl
theorem laidOut : laidOutB Tryd.prog = true := by kernel_rfl
set_option maxRecDepth 100000 in
theorem door_met (os : Os) (args : Array Value) : laidMetH Tryd.prog Rows.agentHailsRow.laid ((World.doorLaid Tryd.prog 200 os).forCall (fun _ _ => 0) ⟨#[], args, []⟩).memory :=
  cast (show laidMet Tryd.prog Rows.agentHailsRow.laid ((World.doorLaid Tryd.prog 200 os).forCall (fun _ _ => 0) ⟨#[], args, []⟩).memory = laidMetH Tryd.prog Rows.agentHailsRow.laid ((World.doorLaid Tryd.prog 200 os).forCall (fun _ _ => 0) ⟨#[], args, []⟩).memory from by kernel_rfl) (laidMet_of_run' 8 (by kernel_rfl) (by kernel_rfl))
set_option maxRecDepth 100000 in
theorem lifted (os : Os) (started : os.Started) (H : Type) (enc : TypeId × Value → H) :
    ReturnsInHanded {} Tryd.checked os 3 .any (fun w args => (Rows.agentHailsSpec.pre enc Tryd.prog Tryd.f3 [] false w args ∧ laidMetH Tryd.prog Rows.agentHailsRow.laid w) ∧ sizedMet enc Tryd.prog Tryd.f3 (OpenSpec.ofChange Rows.agentHailsSpec) false w args) (Rows.agentHailsSpec.post enc Tryd.prog Tryd.f3 false true false false) := by
  refine returnsInHanded_of_change_and (C := Tryd.checked) (X := fun w _ => laidMetH Tryd.prog Rows.agentHailsRow.laid w) (fun _ _ _ hh h => h.of_heap hh) own started (by kernel_rfl) Tryd.func3
    (ChangeSpec.witness_shaped (enc := enc) (C := Tryd.checked) (os := os) (X := fun w _ => laidMetH Tryd.prog Rows.agentHailsRow.laid w) false (World.doorLaid Tryd.prog 200 os) #[.agg #[.int .i64 0, .int .i64 0, .bool false, .int .i64 0, .int .i64 0, .slice none 0 0, .int .i64 0], .agg #[.int .i64 0, .int .i64 0, .int .i64 0, .int .i64 0, .int .i64 0, .int .i64 0, .int .i64 0, .int .i64 0, .int .i64 0, .int .i64 0]] 8 rfl (World.shaped_of_RefB (by kernel_rfl) (by kernel_rfl)) (by kernel_rfl) (by kernel_rfl) (by kernel_rfl) (door_met os _)) ?_
  intro W base args ds gs before hval0 hW _ _ hL _
  have hL1 : laidMet Tryd.prog [("wayfinder/msg.kinds", Rows.laid_wayfinder_msg_kinds)] W := cast (by kernel_rfl) hL
  have hgl := Go.Proofs.YthfdkmbijjkmaaaDoor.V.globs_one (P := Tryd.prog) (t := Go.Proofs.YthfdkmbijjkmaaaDoor.V.TGlob0) (xs := Go.Proofs.YthfdkmbijjkmaaaDoor.V.glob0) (ty := 107) rfl hL1 (by kernel_rfl) (by kernel_rfl) (by kernel_rfl) (by kernel_rfl) (by kernel_rfl)
  have hval : ∀ (j : Nat) t v, Tryd.f3.params[j]? = some t → args[j]? = some v → Value.okWide Tryd.prog W .any base t v := hval0
  have hW' := hW
  obtain ⟨p, q, hA0, hV, rfl, hfz, hnd⟩ := hW
  have hA : DataW.TrodAll enc Tryd.prog W 0 (fun _ => true) true Tryd.f3.params.toList args.toList ds p := hA0
  rw [Tryd.params3] at hA hval
  obtain ⟨v0, vs0, d0, ds0, p0, q0, hargs, rfl, rfl, h0, r0⟩ := trodAll_cons hA
  obtain ⟨v1, vs1, d1, ds1, p1, q1, rfl, rfl, rfl, h1, r1⟩ := trodAll_cons r0
  obtain ⟨rfl, rfl, rfl⟩ := trodAll_nil r1
  obtain rfl : args = #[v0, v1] := by cases args; simp_all
  obtain ⟨rfl, rfl⟩ := trodVars_none hV
  have g0 := h0
  have lt0 : ∀ x ∈ p0, x.block < W.heap.size := by obtain ⟨m, hm⟩ := g0; exact DataW.trod_lt m _ _ _ hm
  obtain ⟨cs0, rfl, hs0⟩ := okWide_struct Tryd.underlying24 (hval 0 24 v0 rfl rfl)
  obtain ⟨fuel0, hf0⟩ := h0
  obtain ⟨x0, hr0, hw0⟩ := (Go.Proofs.YthfdkmbijjkmaaaDoor.V.opens 30 24 Go.Proofs.YthfdkmbijjkmaaaDoor.V.Tf20b (by kernel_rfl)).2 _ _ _ _ _ _ _ _ hf0
  have g1 := h1
  have lt1 : ∀ x ∈ p1, x.block < W.heap.size := by obtain ⟨m, hm⟩ := g1; exact DataW.trod_lt m _ _ _ hm
  obtain ⟨cs1, rfl, hs1⟩ := okWide_struct Tryd.underlying32 (hval 1 32 v1 rfl rfl)
  obtain ⟨fuel1, hf1⟩ := h1
  obtain ⟨x1, hr1, hw1⟩ := (Go.Proofs.YthfdkmbijjkmaaaDoor.V.opens 30 32 Go.Proofs.YthfdkmbijjkmaaaDoor.V.T4414 (by kernel_rfl)).2 _ _ _ _ _ _ _ _ hf1
  clear hA0 hval0
  obtain ⟨k, hk⟩ := Go.Proofs.YthfdkmbijjkmaaaDoor.V.P_AgentHails x0 x1 hw0 hw1
  refine (Go.Proofs.YthfdkmbijjkmaaaDoor.V.f_law17_AgentHails.fits.calls (x0, x1, ()) (true, ()) ⟨k, hk⟩ (fun b => b < W.heap.size) W #[.agg cs0, .agg cs1] hgl (And.intro (by have := Go.Proofs.YthfdkmbijjkmaaaDoor.V.RepD.encC_any hr0; rw [show Value.cells (.agg cs0) = cs0 from rfl] at this; exact (show Go.Proofs.YthfdkmbijjkmaaaDoor.V.RepC (Go.Proofs.YthfdkmbijjkmaaaDoor.V.E0 _) W _ (Go.Proofs.YthfdkmbijjkmaaaDoor.V.cvOf true _) by rw [Go.Proofs.YthfdkmbijjkmaaaDoor.V.cvOf_true]; exact ⟨cs0, rfl, this⟩)) (And.intro (by have := Go.Proofs.YthfdkmbijjkmaaaDoor.V.RepD.encC_any hr1; rw [show Value.cells (.agg cs1) = cs1 from rfl] at this; exact (show Go.Proofs.YthfdkmbijjkmaaaDoor.V.RepC (Go.Proofs.YthfdkmbijjkmaaaDoor.V.E0 _) W _ (Go.Proofs.YthfdkmbijjkmaaaDoor.V.cvOf true _) by rw [Go.Proofs.YthfdkmbijjkmaaaDoor.V.cvOf_true]; exact ⟨cs1, rfl, this⟩)) trivial))).mono ?_
  rintro e W' ⟨v, rfl, bel, F', _, _, _, hv⟩
  obtain rfl : v = .bool true := hv
  exact ⟨_, rfl, _, _, _, [], _, [], hW', trodAll_mk1 (shut_bool Tryd.underlying4 _), (trodAll_cons_mk (Below.trod laidOut (by kernel_rfl) (of_decide_eq_true (by kernel_rfl)) g0 bel lt0) (trodAll_cons_mk (Below.trod laidOut (by kernel_rfl) (of_decide_eq_true (by kernel_rfl)) g1 bel lt1) trodAll_mk0)), rfl, bel.frame _, fun h => by cases h⟩
theorem over : Rows.agentHailsRow.holds Tryd.pinned (OpenSpec.ofChange Rows.agentHailsSpec) :=
  OpenClaim.holds_of_wide 3 Tryd.f3 rfl rfl rfl rfl rfl rfl rfl ⟨rfl, rfl, rfl, rfl, rfl⟩ rfl rfl rfl rfl rfl (by kernel_rfl) Tryd.func3 (by kernel_rfl)
    (of_decide_eq_true (by kernel_rfl)) (by unfold Func.isWrapper; first | (rw [if_pos (by decide +kernel)]; kernel_rfl) | (rw [if_neg (by decide +kernel)]; exact ⟨rfl, rfl⟩))
    (fun os started H enc _ => lifted os started H enc)
theorem proved : Rows.AgentHailsSaid := over
theorem card : Rows.AgentHailsCardSaid :=
  Claim7.holds_tied_plain_at .later [] [.data] true (true, "de4f5f0cf7e19a965f6c8db88a0733b6fe73f44df0dd2af3a469b072dbbe3762") false
    over (fun _ h => by cases h) (by kernel_rfl) (fun _ h => by cases h) agentHails_row_tie rfl ⟨rfl, rfl⟩ (by kernel_rfl) rfl
    (fun f fn hf hfn => by
      obtain rfl : f = 3 := Option.some.inj ((show Tryd.prog.funcNamed "wayfinder/wayfinderlaw17.AgentHails" = some 3 by kernel_rfl).symm.trans hf) |>.symm
      obtain rfl : fn = Tryd.f3 := (Option.some.inj (Tryd.func3.symm.trans hfn)).symm
      exact ⟨by kernel_rfl, fun j t ht => by
        rw [Tryd.params3] at ht
        have hm : t ∈ [24, 32] := by simpa using Array.mem_of_getElem? ht
        have hall : ([24, 32].all fun u => !Tryd.prog.wantsStandIn u) = true := by kernel_rfl
        exact (show Tryd.prog.wantsStandIn t = false by simpa using List.all_eq_true.1 hall t hm)⟩)
    (by kernel_rfl)
#print axioms card
end Go.Proofs.YthfdkmbijjkmaaaDoor.agentHails
namespace Go.Proofs.YthfdkmbijjkmaaaDoor
/-- The row, under a short name, for the claim. -/
theorem agentHails_holds : Rows.AgentHailsCardSaid := agentHails.card
end Go.Proofs.YthfdkmbijjkmaaaDoor
