/-
  NARROWER THAN 'FOR EVERY INPUT', by the rows' own cells (each row's printed sentence says how): ControlHears: laid · ControlAsked: laid · ControlTicks: laid · ControlOwn: laid.
  DERIVED. THE GIVEN ROWS OF THIS SEAT. 4 by the template 'for every input the law returns true; each argument reads behind the call as it read before'; 0 by the template 'total and deterministic' (their statements: YtkhjemahenkdiaaGreatDoorTotals.lean).
  GIVEN WITH THE SEED: the statements are not yours to turn. If you find one false, say at which input.
  Laid BY PROGRAM, IN A SANDBOX (cutbox-rows.mjs): the forced cells as the released guide's own fill.sh prints them over the translation 657c669ee717a538… (all of the seat's roots in one cut). By AI agents, Wed Nov 11 2026. No macro, syntax, notation, axiom, sorry.
-/
import Derived.Test.YtkhjemahenkdiaaGreatDoorChecked
import GoSem.Claim
import GoSem.ClaimJoined
import GoSem.ClaimMapViews
import Derived.JoinedTies
import Derived.KernelRfl
namespace Go.Proofs.YtkhjemahenkdiaaGreatDoor
/- THE CELL 'sum', in the pinned program and in every row, IS THE sha256 OF THE DUMP (.gsa) THAT YtkhjemahenkdiaaGreatDoorProg.lean LOADS. Nothing in Lean hashes anything: it is a label: what it is worth is what the hold of that sum in a sandbox is worth. -/
noncomputable def Tryz.pinned : Pinned := { name := "ytkhjemahenkdiaagreatdoor", sum := "657c669ee717a5382699eefc21576c2f28eaaa5c6d1c083e6e91d7ebb52121dd", checked := Tryz.checked }
namespace Rows
def none {H : Type} : Left H := { results := [], args := [] }

/- WHAT THE LISTED PACKAGE-LEVEL VARIABLES READ AS WHEN THE CALL BEGINS. Each datum BY PROGRAM (the guide's laid-datum.mjs) off the statement by which the dump's own 'gosem.cut.vars' lays the variable. In a bare row this is a premise. The card (YtkhjemahenkdiaaGreatDoorCards.lean) ties it to the program's text. -/
def laid_wayfinder_msg_kinds {H : Type} : DataW H := .agg [.agg [.agg [.lit (.int .i64 0), .lit (.int .i64 0)], .agg [.lit (.int .i64 0), .lit (.int .i64 0)], .lit (.bool false)], .agg [.agg [.lit (.int .i64 0), .lit (.int .i64 1048576)], .agg [.lit (.int .i64 0), .lit (.int .i64 4095)], .lit (.bool false)], .agg [.agg [.lit (.int .i64 1), .lit (.int .i64 1048576)], .agg [.lit (.int .i64 1), .lit (.int .i64 4095)], .lit (.bool true)], .agg [.agg [.lit (.int .i64 1), .lit (.int .i64 1048576)], .agg [.lit (.int .i64 1), .lit (.int .i64 4095)], .lit (.bool false)], .agg [.agg [.lit (.int .i64 1), .lit (.int .i64 1048576)], .agg [.lit (.int .i64 1), .lit (.int .i64 4095)], .lit (.bool false)], .agg [.agg [.lit (.int .i64 1), .lit (.int .i64 1048576)], .agg [.lit (.int .i64 0), .lit (.int .i64 0)], .lit (.bool false)]]

/-- 'wayfinderlaw21.ControlHears': WHATEVER THE INPUT: true; the input reads as it did. -/
def controlHearsSpec : ChangeSpec := { name := "controlHears", fn := fun _ => fun
  | [d1, d2, d3] => { results := [.lit (.bool true)], args := [d1, d2, d3] }
  | _ => none }
def controlHearsRow : OpenClaim := { program := "ytkhjemahenkdiaagreatdoor", sum := "657c669ee717a5382699eefc21576c2f28eaaa5c6d1c083e6e91d7ebb52121dd", func := "wayfinder/wayfinderlaw21.ControlHears", spec := "controlHears", unfollowed := true, recurses := true, named := ["wayfinder/msg.kinds"], plainKeys := false, apart := false, laid := [("wayfinder/msg.kinds", laid_wayfinder_msg_kinds)] }
def ControlHearsSaid : Prop := controlHearsRow.holds Tryz.pinned (OpenSpec.ofChange controlHearsSpec)

/-- ITS FALSE NEIGHBOUR: 'it returns false'. Refute it at one input. -/
def controlHearsWrong : ChangeSpec := { name := "controlHears", fn := fun _ => fun
  | [d1, d2, d3] => { results := [.lit (.bool false)], args := [d1, d2, d3] }
  | _ => none }
def ControlHearsWrongFalsely : Prop := controlHearsRow.holds Tryz.pinned (OpenSpec.ofChange controlHearsWrong)

/-- 'wayfinderlaw21.ControlAsked': WHATEVER THE INPUT: true; the input reads as it did. -/
def controlAskedSpec : ChangeSpec := { name := "controlAsked", fn := fun _ => fun
  | [d1, d2, d3] => { results := [.lit (.bool true)], args := [d1, d2, d3] }
  | _ => none }
def controlAskedRow : OpenClaim := { program := "ytkhjemahenkdiaagreatdoor", sum := "657c669ee717a5382699eefc21576c2f28eaaa5c6d1c083e6e91d7ebb52121dd", func := "wayfinder/wayfinderlaw21.ControlAsked", spec := "controlAsked", unfollowed := true, recurses := true, named := ["wayfinder/msg.kinds"], plainKeys := false, apart := false, laid := [("wayfinder/msg.kinds", laid_wayfinder_msg_kinds)] }
def ControlAskedSaid : Prop := controlAskedRow.holds Tryz.pinned (OpenSpec.ofChange controlAskedSpec)

/-- ITS FALSE NEIGHBOUR: 'it returns false'. Refute it at one input. -/
def controlAskedWrong : ChangeSpec := { name := "controlAsked", fn := fun _ => fun
  | [d1, d2, d3] => { results := [.lit (.bool false)], args := [d1, d2, d3] }
  | _ => none }
def ControlAskedWrongFalsely : Prop := controlAskedRow.holds Tryz.pinned (OpenSpec.ofChange controlAskedWrong)

/-- 'wayfinderlaw21.ControlTicks': WHATEVER THE INPUT: true; the input reads as it did. -/
def controlTicksSpec : ChangeSpec := { name := "controlTicks", fn := fun _ => fun
  | [d1, d2] => { results := [.lit (.bool true)], args := [d1, d2] }
  | _ => none }
def controlTicksRow : OpenClaim := { program := "ytkhjemahenkdiaagreatdoor", sum := "657c669ee717a5382699eefc21576c2f28eaaa5c6d1c083e6e91d7ebb52121dd", func := "wayfinder/wayfinderlaw21.ControlTicks", spec := "controlTicks", unfollowed := true, recurses := true, named := ["wayfinder/msg.kinds"], plainKeys := false, apart := false, laid := [("wayfinder/msg.kinds", laid_wayfinder_msg_kinds)] }
def ControlTicksSaid : Prop := controlTicksRow.holds Tryz.pinned (OpenSpec.ofChange controlTicksSpec)

/-- ITS FALSE NEIGHBOUR: 'it returns false'. Refute it at one input. -/
def controlTicksWrong : ChangeSpec := { name := "controlTicks", fn := fun _ => fun
  | [d1, d2] => { results := [.lit (.bool false)], args := [d1, d2] }
  | _ => none }
def ControlTicksWrongFalsely : Prop := controlTicksRow.holds Tryz.pinned (OpenSpec.ofChange controlTicksWrong)

/-- 'wayfinderlaw21.ControlOwn': WHATEVER THE INPUT: true; the input reads as it did. -/
def controlOwnSpec : ChangeSpec := { name := "controlOwn", fn := fun _ => fun
  | [d1, d2, d3] => { results := [.lit (.bool true)], args := [d1, d2, d3] }
  | _ => none }
def controlOwnRow : OpenClaim := { program := "ytkhjemahenkdiaagreatdoor", sum := "657c669ee717a5382699eefc21576c2f28eaaa5c6d1c083e6e91d7ebb52121dd", func := "wayfinder/wayfinderlaw21.ControlOwn", spec := "controlOwn", unfollowed := true, recurses := true, named := ["wayfinder/msg.kinds"], plainKeys := false, apart := false, laid := [("wayfinder/msg.kinds", laid_wayfinder_msg_kinds)] }
def ControlOwnSaid : Prop := controlOwnRow.holds Tryz.pinned (OpenSpec.ofChange controlOwnSpec)

/-- ITS FALSE NEIGHBOUR: 'it returns false'. Refute it at one input. -/
def controlOwnWrong : ChangeSpec := { name := "controlOwn", fn := fun _ => fun
  | [d1, d2, d3] => { results := [.lit (.bool false)], args := [d1, d2, d3] }
  | _ => none }
def ControlOwnWrongFalsely : Prop := controlOwnRow.holds Tryz.pinned (OpenSpec.ofChange controlOwnWrong)

/- THE SECOND FORM. 'bulk': how many values and letters a reading holds, each counted each time it is reached (what is shared counts as often as it is met; a slice's spare places count too). A statement '..UptoSaid' is the law's where the arguments, and the package variables that the reading takes, are together of bulk at most 1048576: NARROWER than '..Said'. Prove '..Said' where nothing that the law and all that it calls make is longer than what came in: it says more and counts as full. Else prove '..UptoSaid'. A law counts once. -/
mutual
def uptoBulk {H : Type} : DataW H → Nat
  | .lit (.string bytes) => bytes.length + 1
  | .lit _ => 1
  | .nil => 1
  | .ptr d => uptoBulk d + 1
  | .slice elems spare => uptoBulkAll elems + uptoBulkAll spare + 1
  | .agg parts => uptoBulkAll parts + 1
  | .iface _ d => uptoBulk d + 1
  | .map entries => uptoBulkEntries entries + 1
  | .held _ => 1
def uptoBulkAll {H : Type} : List (DataW H) → Nat
  | [] => 0
  | d :: r => uptoBulk d + uptoBulkAll r
def uptoBulkEntries {H : Type} : List (Lit × DataW H) → Nat
  | [] => 0
  | x :: r => uptoBulkEntry x + uptoBulkEntries r
def uptoBulkEntry {H : Type} : Lit × DataW H → Nat
  | (.string bytes, d) => bytes.length + uptoBulk d + 1
  | (_, d) => uptoBulk d + 1
 end
def uptoSmall : (H : Type) → List (DataW H) → Bool := fun _ ds => decide (uptoBulkAll ds ≤ 1048576)
def OpenSpec.upto (s : _root_.Go.ChangeSpec) : _root_.Go.OpenSpec := { _root_.Go.OpenSpec.ofChange s with cond := some uptoSmall }

/-- 'wayfinderlaw21.ControlHears', WHERE WHAT IT READS IS OF BULK AT MOST 1048576: true; the input reads as it did. -/
def controlHearsUptoRow : OpenClaim := { program := "ytkhjemahenkdiaagreatdoor", sum := "657c669ee717a5382699eefc21576c2f28eaaa5c6d1c083e6e91d7ebb52121dd", func := "wayfinder/wayfinderlaw21.ControlHears", spec := "controlHears", unfollowed := true, recurses := true, named := ["wayfinder/msg.kinds"], plainKeys := false, apart := false, laid := [("wayfinder/msg.kinds", laid_wayfinder_msg_kinds)], narrowed := true }
def ControlHearsUptoSaid : Prop := controlHearsUptoRow.holds Tryz.pinned (OpenSpec.upto controlHearsSpec)

/-- 'wayfinderlaw21.ControlAsked', WHERE WHAT IT READS IS OF BULK AT MOST 1048576: true; the input reads as it did. -/
def controlAskedUptoRow : OpenClaim := { program := "ytkhjemahenkdiaagreatdoor", sum := "657c669ee717a5382699eefc21576c2f28eaaa5c6d1c083e6e91d7ebb52121dd", func := "wayfinder/wayfinderlaw21.ControlAsked", spec := "controlAsked", unfollowed := true, recurses := true, named := ["wayfinder/msg.kinds"], plainKeys := false, apart := false, laid := [("wayfinder/msg.kinds", laid_wayfinder_msg_kinds)], narrowed := true }
def ControlAskedUptoSaid : Prop := controlAskedUptoRow.holds Tryz.pinned (OpenSpec.upto controlAskedSpec)

/-- 'wayfinderlaw21.ControlTicks', WHERE WHAT IT READS IS OF BULK AT MOST 1048576: true; the input reads as it did. -/
def controlTicksUptoRow : OpenClaim := { program := "ytkhjemahenkdiaagreatdoor", sum := "657c669ee717a5382699eefc21576c2f28eaaa5c6d1c083e6e91d7ebb52121dd", func := "wayfinder/wayfinderlaw21.ControlTicks", spec := "controlTicks", unfollowed := true, recurses := true, named := ["wayfinder/msg.kinds"], plainKeys := false, apart := false, laid := [("wayfinder/msg.kinds", laid_wayfinder_msg_kinds)], narrowed := true }
def ControlTicksUptoSaid : Prop := controlTicksUptoRow.holds Tryz.pinned (OpenSpec.upto controlTicksSpec)

/-- 'wayfinderlaw21.ControlOwn', WHERE WHAT IT READS IS OF BULK AT MOST 1048576: true; the input reads as it did. -/
def controlOwnUptoRow : OpenClaim := { program := "ytkhjemahenkdiaagreatdoor", sum := "657c669ee717a5382699eefc21576c2f28eaaa5c6d1c083e6e91d7ebb52121dd", func := "wayfinder/wayfinderlaw21.ControlOwn", spec := "controlOwn", unfollowed := true, recurses := true, named := ["wayfinder/msg.kinds"], plainKeys := false, apart := false, laid := [("wayfinder/msg.kinds", laid_wayfinder_msg_kinds)], narrowed := true }
def ControlOwnUptoSaid : Prop := controlOwnUptoRow.holds Tryz.pinned (OpenSpec.upto controlOwnSpec)

end Rows
end Go.Proofs.YtkhjemahenkdiaaGreatDoor
