/- What is proved: wayfinderlaw21.ControlTicks answers true for every input and leaves its arguments as they were. Conditions: none. -/
import Derived.Test.YtkhjemahenkdiaaGreatDoorRows
import Derived.Test.YtkhjemahenkdiaaGreatDoorCards
import Derived.Test.YtkhjemahenkdiaaGreatDoorTie
import Derived.Test.YtkhjemahenkdiaaGreatDoorVZL
import Derived.Test.YtkhjemahenkdiaaGreatDoorKControlTicks
import Derived.ChangeSame
import Derived.ChangeVars
import Derived.LaidLaws
import Derived.LaidMore
import Derived.LaidOnce
import Derived.JoinedOf
import Derived.SevenTiedAt
import Derived.Stop.Joined
import Derived.WalkKit
import Derived.ProofKit
import Derived.OpenShut
import Derived.ShutString
import Derived.ChangeOld
import Derived.Below
import Derived.SizedLaws
namespace Go.Proofs.YtkhjemahenkdiaaGreatDoor.controlTicks
open Go.ChangeShapes Go.WideShapes Go.ChangeAt Go.RowKit
open Go.ChangeMaps (open_string shut_string)
set_option linter.unusedVariables false
theorem own : ownKnob Tryz.prog.godebug = none := by kernel_rfl
theorem laidOut : laidOutB Tryz.prog = true := by kernel_rfl
set_option maxRecDepth 100000 in
theorem door_met (os : Os) (args : Array Value) : laidMetH Tryz.prog Rows.controlTicksRow.laid ((World.doorLaid Tryz.prog 200 os).forCall (fun _ _ => 0) ⟨#[], args, []⟩).memory :=
  cast (show laidMet Tryz.prog Rows.controlTicksRow.laid ((World.doorLaid Tryz.prog 200 os).forCall (fun _ _ => 0) ⟨#[], args, []⟩).memory = laidMetH Tryz.prog Rows.controlTicksRow.laid ((World.doorLaid Tryz.prog 200 os).forCall (fun _ _ => 0) ⟨#[], args, []⟩).memory from by kernel_rfl) (laidMet_of_run' 8 (by kernel_rfl) (by kernel_rfl))
set_option maxRecDepth 100000 in
theorem lifted (os : Os) (started : os.Started) (H : Type) (enc : TypeId × Value → H) :
    ReturnsInHanded {} Tryz.checked os 5 .any (fun w args => (Rows.controlTicksSpec.pre enc Tryz.prog Tryz.f5 [] false w args ∧ laidMetH Tryz.prog Rows.controlTicksRow.laid w) ∧ sizedMet enc Tryz.prog Tryz.f5 (OpenSpec.ofChange Rows.controlTicksSpec) false w args) (Rows.controlTicksSpec.post enc Tryz.prog Tryz.f5 false true false false) := by
  refine returnsInHanded_of_change_and (C := Tryz.checked) (X := fun w _ => laidMetH Tryz.prog Rows.controlTicksRow.laid w) (fun _ _ _ hh h => h.of_heap hh) own started (by kernel_rfl) Tryz.func5
    (ChangeSpec.witness_shaped (enc := enc) (C := Tryz.checked) (os := os) (X := fun w _ => laidMetH Tryz.prog Rows.controlTicksRow.laid w) false (World.doorLaid Tryz.prog 200 os) #[.agg #[.slice none 0 0, .int .i64 0, .int .i64 0, .int .i64 0, .int .i64 0, .int .i64 0, .int .i64 0, .slice none 0 0, .slice none 0 0, .slice none 0 0, .slice none 0 0, .slice none 0 0, .int .i64 0], .int .i64 0] 8 rfl (World.shaped_of_RefB (by kernel_rfl) (by kernel_rfl)) (by kernel_rfl) (by kernel_rfl) (by kernel_rfl) (door_met os _)) ?_
  intro W base args ds gs before hval0 hW _ _ hL _
  have hL1 : laidMet Tryz.prog [("wayfinder/msg.kinds", Rows.laid_wayfinder_msg_kinds)] W := cast (by kernel_rfl) hL
  have hgl := Go.Proofs.YtkhjemahenkdiaaGreatDoor.V.globs_one (P := Tryz.prog) (t := Go.Proofs.YtkhjemahenkdiaaGreatDoor.V.TGlob0) (xs := Go.Proofs.YtkhjemahenkdiaaGreatDoor.V.glob0) (ty := 143) rfl hL1 (by kernel_rfl) (by kernel_rfl) (by kernel_rfl) (by kernel_rfl) (by kernel_rfl)
  have hval : ∀ (j : Nat) t v, Tryz.f5.params[j]? = some t → args[j]? = some v → Value.okWide Tryz.prog W .any base t v := hval0
  have hW' := hW
  obtain ⟨p, q, hA0, hV, rfl, hfz, hnd⟩ := hW
  have hA : DataW.TrodAll enc Tryz.prog W 0 (fun _ => true) true Tryz.f5.params.toList args.toList ds p := hA0
  rw [Tryz.params5] at hA hval
  obtain ⟨v0, vs0, d0, ds0, p0, q0, hargs, rfl, rfl, h0, r0⟩ := trodAll_cons hA
  obtain ⟨v1, vs1, d1, ds1, p1, q1, rfl, rfl, rfl, h1, r1⟩ := trodAll_cons r0
  obtain ⟨rfl, rfl, rfl⟩ := trodAll_nil r1
  obtain rfl : args = #[v0, v1] := by cases args; simp_all
  obtain ⟨rfl, rfl⟩ := trodVars_none hV
  have g0 := h0
  have lt0 : ∀ x ∈ p0, x.block < W.heap.size := by obtain ⟨m, hm⟩ := g0; exact DataW.trod_lt m _ _ _ hm
  obtain ⟨cs0, rfl, hs0⟩ := okWide_struct Tryz.underlying27 (hval 0 27 v0 rfl rfl)
  obtain ⟨fuel0, hf0⟩ := h0
  obtain ⟨x0, hr0, hw0⟩ := (Go.Proofs.YtkhjemahenkdiaaGreatDoor.V.opens 30 27 Go.Proofs.YtkhjemahenkdiaaGreatDoor.V.T26b3 (by kernel_rfl)).2 _ _ _ _ _ _ _ _ hf0
  obtain ⟨x1, rfl, rfl, rfl, w1⟩ := open_int Tryz.underlying3 (hval 1 3 v1 rfl rfl) h1
  clear hA0 hval0
  obtain ⟨k, hk⟩ := Go.Proofs.YtkhjemahenkdiaaGreatDoor.V.P_ControlTicks x0 x1 hw0 w1
  refine (Go.Proofs.YtkhjemahenkdiaaGreatDoor.V.f_law21_ControlTicks.fits.calls (x0, x1, ()) (true, ()) ⟨k, hk⟩ (fun b => b < W.heap.size) W #[.agg cs0, .int .i64 x1] hgl (And.intro (by have := Go.Proofs.YtkhjemahenkdiaaGreatDoor.V.RepD.encC_any hr0; rw [show Value.cells (.agg cs0) = cs0 from rfl] at this; exact (show Go.Proofs.YtkhjemahenkdiaaGreatDoor.V.RepC (Go.Proofs.YtkhjemahenkdiaaGreatDoor.V.E0 _) W _ (Go.Proofs.YtkhjemahenkdiaaGreatDoor.V.cvOf true _) by rw [Go.Proofs.YtkhjemahenkdiaaGreatDoor.V.cvOf_true]; exact ⟨cs0, rfl, this⟩)) (And.intro rfl trivial))).mono ?_
  rintro e W' ⟨v, rfl, bel, F', _, _, _, hv⟩
  obtain rfl : v = .bool true := hv
  exact ⟨_, rfl, _, _, _, [], _, [], hW', trodAll_mk1 (shut_bool Tryz.underlying4 _), (trodAll_cons_mk (Below.trod laidOut (by kernel_rfl) (of_decide_eq_true (by kernel_rfl)) g0 bel lt0) (trodAll_cons_mk (shut_int Tryz.underlying3 w1) trodAll_mk0)), rfl, bel.frame _, fun h => by cases h⟩
theorem over : Rows.controlTicksRow.holds Tryz.pinned (OpenSpec.ofChange Rows.controlTicksSpec) :=
  OpenClaim.holds_of_wide 5 Tryz.f5 rfl rfl rfl rfl rfl rfl rfl ⟨rfl, rfl, rfl, rfl, rfl⟩ rfl rfl rfl rfl rfl (by kernel_rfl) Tryz.func5 (by kernel_rfl)
    (of_decide_eq_true (by kernel_rfl)) (by unfold Func.isWrapper; first | (rw [if_pos (by decide +kernel)]; kernel_rfl) | (rw [if_neg (by decide +kernel)]; exact ⟨rfl, rfl⟩))
    (fun os started H enc _ => lifted os started H enc)
theorem proved : Rows.ControlTicksSaid := over
theorem card : Rows.ControlTicksCardSaid :=
  Claim7.holds_tied_plain_at .later [] [.data] true (true, "9cd710a2e8a588732f2817cd8144c8c08a3d6c8f23c65476cd25f4212cf9e1c6") false
    over (fun _ h => by cases h) (by kernel_rfl) (fun _ h => by cases h) controlTicks_row_tie rfl ⟨rfl, rfl⟩ (by kernel_rfl) rfl
    (fun f fn hf hfn => by
      obtain rfl : f = 5 := Option.some.inj ((show Tryz.prog.funcNamed "wayfinder/wayfinderlaw21.ControlTicks" = some 5 by kernel_rfl).symm.trans hf) |>.symm
      obtain rfl : fn = Tryz.f5 := (Option.some.inj (Tryz.func5.symm.trans hfn)).symm
      exact ⟨by kernel_rfl, fun j t ht => by
        rw [Tryz.params5] at ht
        have hm : t ∈ [27, 3] := by simpa using Array.mem_of_getElem? ht
        have hall : ([27, 3].all fun u => !Tryz.prog.wantsStandIn u) = true := by kernel_rfl
        exact (show Tryz.prog.wantsStandIn t = false by simpa using List.all_eq_true.1 hall t hm)⟩)
    (by kernel_rfl)
#print axioms card
end Go.Proofs.YtkhjemahenkdiaaGreatDoor.controlTicks
namespace Go.Proofs.YtkhjemahenkdiaaGreatDoor
/-- The row, under a short name, for the claim. -/
theorem controlTicks_holds : Rows.ControlTicksCardSaid := controlTicks.card
end Go.Proofs.YtkhjemahenkdiaaGreatDoor
