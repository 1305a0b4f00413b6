/- What is proved: wayfinderlaw21.ControlAcks answers true for every input and leaves its arguments as they were. Conditions: none. -/
import Derived.Test.YtkhjemahenkdiaaDoorRows
import Derived.Test.YtkhjemahenkdiaaDoorCards
import Derived.Test.YtkhjemahenkdiaaDoorTie
import Derived.Test.YtkhjemahenkdiaaDoorVZL
import Derived.Test.YtkhjemahenkdiaaDoorKControlAcks
import Derived.ChangeSame
import Derived.ChangeVars
import Derived.LaidLaws
import Derived.LaidMore
import Derived.LaidOnce
import Derived.JoinedOf
import Derived.SevenTiedAt
import Derived.Stop.Joined
import Derived.WalkKit
import Derived.ProofKit
import Derived.OpenShut
import Derived.ShutString
import Derived.ChangeOld
import Derived.Below
import Derived.SizedLaws
namespace Go.Proofs.YtkhjemahenkdiaaDoor.controlAcks
open Go.ChangeShapes Go.WideShapes Go.ChangeAt Go.RowKit
open Go.ChangeMaps (open_string shut_string)
set_option linter.unusedVariables false
theorem own : ownKnob Tryd.prog.godebug = none := by kernel_rfl
theorem laidOut : laidOutB Tryd.prog = true := by kernel_rfl
set_option maxRecDepth 100000 in
theorem door_met (os : Os) (args : Array Value) : laidMetH Tryd.prog Rows.controlAcksRow.laid ((World.doorLaid Tryd.prog 200 os).forCall (fun _ _ => 0) ⟨#[], args, []⟩).memory :=
  cast (show laidMet Tryd.prog Rows.controlAcksRow.laid ((World.doorLaid Tryd.prog 200 os).forCall (fun _ _ => 0) ⟨#[], args, []⟩).memory = laidMetH Tryd.prog Rows.controlAcksRow.laid ((World.doorLaid Tryd.prog 200 os).forCall (fun _ _ => 0) ⟨#[], args, []⟩).memory from by kernel_rfl) (laidMet_of_run' 8 (by kernel_rfl) (by kernel_rfl))
set_option maxRecDepth 100000 in
theorem lifted (os : Os) (started : os.Started) (H : Type) (enc : TypeId × Value → H) :
    ReturnsInHanded {} Tryd.checked os 4 .any (fun w args => (Rows.controlAcksSpec.pre enc Tryd.prog Tryd.f4 [] false w args ∧ laidMetH Tryd.prog Rows.controlAcksRow.laid w) ∧ sizedMet enc Tryd.prog Tryd.f4 (OpenSpec.ofChange Rows.controlAcksSpec) false w args) (Rows.controlAcksSpec.post enc Tryd.prog Tryd.f4 false true false false) := by
  refine returnsInHanded_of_change_and (C := Tryd.checked) (X := fun w _ => laidMetH Tryd.prog Rows.controlAcksRow.laid w) (fun _ _ _ hh h => h.of_heap hh) own started (by kernel_rfl) Tryd.func4
    (ChangeSpec.witness_shaped (enc := enc) (C := Tryd.checked) (os := os) (X := fun w _ => laidMetH Tryd.prog Rows.controlAcksRow.laid w) false (World.doorLaid Tryd.prog 200 os) #[.agg #[.slice none 0 0, .int .i64 0, .int .i64 0, .int .i64 0, .int .i64 0, .int .i64 0, .int .i64 0, .slice none 0 0, .slice none 0 0, .slice none 0 0, .slice none 0 0, .slice none 0 0, .int .i64 0], .int .i64 0, .int .i64 0, .int .i64 0, .int .i64 0] 8 rfl (World.shaped_of_RefB (by kernel_rfl) (by kernel_rfl)) (by kernel_rfl) (by kernel_rfl) (by kernel_rfl) (door_met os _)) ?_
  intro W base args ds gs before hval0 hW _ hsz hL _
  have hL1 : laidMet Tryd.prog [("wayfinder/msg.kinds", Rows.laid_wayfinder_msg_kinds)] W := cast (by kernel_rfl) hL
  have hgl := Go.Proofs.YtkhjemahenkdiaaDoor.V.globs_one (P := Tryd.prog) (t := Go.Proofs.YtkhjemahenkdiaaDoor.V.TGlob0) (xs := Go.Proofs.YtkhjemahenkdiaaDoor.V.glob0) (ty := 106) rfl hL1 (by kernel_rfl) (by kernel_rfl) (by kernel_rfl) (by kernel_rfl) (by kernel_rfl)
  have hval : ∀ (j : Nat) t v, Tryd.f4.params[j]? = some t → args[j]? = some v → Value.okWide Tryd.prog W .any base t v := hval0
  have hW' := hW
  obtain ⟨p, q, hA0, hV, rfl, hfz, hnd⟩ := hW
  have hA : DataW.TrodAll enc Tryd.prog W 0 (fun _ => true) true Tryd.f4.params.toList args.toList ds p := hA0
  rw [Tryd.params4] at hA hval
  obtain ⟨v0, vs0, d0, ds0, p0, q0, hargs, rfl, rfl, h0, r0⟩ := trodAll_cons hA
  obtain ⟨v1, vs1, d1, ds1, p1, q1, rfl, rfl, rfl, h1, r1⟩ := trodAll_cons r0
  obtain ⟨v2, vs2, d2, ds2, p2, q2, rfl, rfl, rfl, h2, r2⟩ := trodAll_cons r1
  obtain ⟨v3, vs3, d3, ds3, p3, q3, rfl, rfl, rfl, h3, r3⟩ := trodAll_cons r2
  obtain ⟨v4, vs4, d4, ds4, p4, q4, rfl, rfl, rfl, h4, r4⟩ := trodAll_cons r3
  obtain ⟨rfl, rfl, rfl⟩ := trodAll_nil r4
  obtain rfl : args = #[v0, v1, v2, v3, v4] := by cases args; simp_all
  obtain ⟨rfl, rfl⟩ := trodVars_none hV
  have g0 := h0
  have lt0 : ∀ x ∈ p0, x.block < W.heap.size := by obtain ⟨m, hm⟩ := g0; exact DataW.trod_lt m _ _ _ hm
  obtain ⟨cs0, rfl, hs0⟩ := okWide_struct Tryd.underlying27 (hval 0 27 v0 rfl rfl)
  obtain ⟨fuel0, hf0⟩ := h0
  have sz0 : Go.Proofs.YtkhjemahenkdiaaDoor.V.SzD Tryd.prog 27 d0 := Go.Proofs.YtkhjemahenkdiaaDoor.V.all_of_mem hsz fun x hx => DataW.weights_mem_each (j := 0) (by rw [Tryd.params4]; rfl) rfl x hx
  obtain ⟨x0, hr0, hw0, hz0⟩ := (Go.Proofs.YtkhjemahenkdiaaDoor.V.opensS 30 27 Go.Proofs.YtkhjemahenkdiaaDoor.V.T26b3 (by kernel_rfl)).2 _ _ _ _ _ _ _ _ hf0
  obtain ⟨x1, rfl, rfl, rfl, w1⟩ := open_int Tryd.underlying3 (hval 1 3 v1 rfl rfl) h1
  obtain ⟨x2, rfl, rfl, rfl, w2⟩ := open_int Tryd.underlying3 (hval 2 3 v2 rfl rfl) h2
  obtain ⟨x3, rfl, rfl, rfl, w3⟩ := open_int Tryd.underlying3 (hval 3 3 v3 rfl rfl) h3
  obtain ⟨x4, rfl, rfl, rfl, w4⟩ := open_int Tryd.underlying3 (hval 4 3 v4 rfl rfl) h4
  clear hA0 hval0
  obtain ⟨k, hk⟩ := Go.Proofs.YtkhjemahenkdiaaDoor.V.P_ControlAcks x0 x1 x2 x3 x4 hw0 w1 w2 w3 w4 (hz0 sz0)
  refine (Go.Proofs.YtkhjemahenkdiaaDoor.V.f_law21_ControlAcks.fits.calls (x0, x1, x2, x3, x4, ()) (true, ()) ⟨k, hk⟩ (fun b => b < W.heap.size) W #[.agg cs0, .int .i64 x1, .int .i64 x2, .int .i64 x3, .int .i64 x4] hgl (And.intro (by have := Go.Proofs.YtkhjemahenkdiaaDoor.V.RepD.encC_any hr0; rw [show Value.cells (.agg cs0) = cs0 from rfl] at this; exact (show Go.Proofs.YtkhjemahenkdiaaDoor.V.RepC (Go.Proofs.YtkhjemahenkdiaaDoor.V.E0 _) W _ (Go.Proofs.YtkhjemahenkdiaaDoor.V.cvOf true _) by rw [Go.Proofs.YtkhjemahenkdiaaDoor.V.cvOf_true]; exact ⟨cs0, rfl, this⟩)) (And.intro rfl (And.intro rfl (And.intro rfl (And.intro rfl trivial)))))).mono ?_
  rintro e W' ⟨v, rfl, bel, F', _, _, _, hv⟩
  obtain rfl : v = .bool true := hv
  exact ⟨_, rfl, _, _, _, [], _, [], hW', trodAll_mk1 (shut_bool Tryd.underlying4 _), (trodAll_cons_mk (Below.trod laidOut (by kernel_rfl) (of_decide_eq_true (by kernel_rfl)) g0 bel lt0) (trodAll_cons_mk (shut_int Tryd.underlying3 w1) (trodAll_cons_mk (shut_int Tryd.underlying3 w2) (trodAll_cons_mk (shut_int Tryd.underlying3 w3) (trodAll_cons_mk (shut_int Tryd.underlying3 w4) trodAll_mk0))))), rfl, bel.frame _, fun h => by cases h⟩
theorem over : Rows.controlAcksRow.holds Tryd.pinned (OpenSpec.ofChange Rows.controlAcksSpec) :=
  OpenClaim.holds_of_wide 4 Tryd.f4 rfl rfl rfl rfl rfl rfl rfl ⟨rfl, rfl, rfl, rfl, rfl⟩ rfl rfl rfl rfl rfl (by kernel_rfl) Tryd.func4 (by kernel_rfl)
    (of_decide_eq_true (by kernel_rfl)) (by unfold Func.isWrapper; first | (rw [if_pos (by decide +kernel)]; kernel_rfl) | (rw [if_neg (by decide +kernel)]; exact ⟨rfl, rfl⟩))
    (fun os started H enc _ => lifted os started H enc)
theorem proved : Rows.ControlAcksSaid := over
theorem card : Rows.ControlAcksCardSaid :=
  Claim7.holds_tied_plain_at .later [] [.data] true (true, "689c30c13182382b69e4ad258975f8caab5909afd10a7696181f78150eab863f") false
    over (fun _ h => by cases h) (by kernel_rfl) (fun _ h => by cases h) controlAcks_row_tie rfl ⟨rfl, rfl⟩ (by kernel_rfl) rfl
    (fun f fn hf hfn => by
      obtain rfl : f = 4 := Option.some.inj ((show Tryd.prog.funcNamed "wayfinder/wayfinderlaw21.ControlAcks" = some 4 by kernel_rfl).symm.trans hf) |>.symm
      obtain rfl : fn = Tryd.f4 := (Option.some.inj (Tryd.func4.symm.trans hfn)).symm
      exact ⟨by kernel_rfl, fun j t ht => by
        rw [Tryd.params4] at ht
        have hm : t ∈ [27, 3, 3, 3, 3] := by simpa using Array.mem_of_getElem? ht
        have hall : ([27, 3, 3, 3, 3].all fun u => !Tryd.prog.wantsStandIn u) = true := by kernel_rfl
        exact (show Tryd.prog.wantsStandIn t = false by simpa using List.all_eq_true.1 hall t hm)⟩)
    (by kernel_rfl)
#print axioms card
end Go.Proofs.YtkhjemahenkdiaaDoor.controlAcks
namespace Go.Proofs.YtkhjemahenkdiaaDoor
/-- The row, under a short name, for the claim. -/
theorem controlAcks_holds : Rows.ControlAcksCardSaid := controlAcks.card
end Go.Proofs.YtkhjemahenkdiaaDoor
