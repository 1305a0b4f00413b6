/-
  NARROWER THAN 'FOR EVERY INPUT', by the rows' own cells (each row's printed sentence says how): ControlHello: laid · ControlAcks: laid · ControlTwo: laid · ControlWaits: laid · ControlPhase: laid.
  DERIVED. THE GIVEN ROWS OF THIS SEAT. 5 by the template 'for every input the law returns true; each argument reads behind the call as it read before'; 0 by the template 'total and deterministic' (their statements: YtkhjemahenkdiaaDoorTotals.lean).
  GIVEN WITH THE SEED: the statements are not yours to turn. If you find one false, say at which input.
  Laid BY PROGRAM, IN A SANDBOX (cutbox-rows.mjs): the forced cells as the released guide's own fill.sh prints them over the translation e9f1c31268221df7… (all of the seat's roots in one cut). By AI agents, Wed Nov 11 2026. No macro, syntax, notation, axiom, sorry.
-/
import Derived.Test.YtkhjemahenkdiaaDoorChecked
import GoSem.Claim
import GoSem.ClaimJoined
import GoSem.ClaimMapViews
import Derived.JoinedTies
import Derived.KernelRfl
namespace Go.Proofs.YtkhjemahenkdiaaDoor
/- THE CELL 'sum', in the pinned program and in every row, IS THE sha256 OF THE DUMP (.gsa) THAT YtkhjemahenkdiaaDoorProg.lean LOADS. Nothing in Lean hashes anything: it is a label: what it is worth is what the hold of that sum in a sandbox is worth. -/
noncomputable def Tryd.pinned : Pinned := { name := "ytkhjemahenkdiaadoor", sum := "e9f1c31268221df76f8c7d7cc8c7cdebd595a50e94ad3766362f6bef422ccff7", checked := Tryd.checked }
namespace Rows
def none {H : Type} : Left H := { results := [], args := [] }

/- WHAT THE LISTED PACKAGE-LEVEL VARIABLES READ AS WHEN THE CALL BEGINS. Each datum BY PROGRAM (the guide's laid-datum.mjs) off the statement by which the dump's own 'gosem.cut.vars' lays the variable. In a bare row this is a premise. The card (YtkhjemahenkdiaaDoorCards.lean) ties it to the program's text. -/
def laid_wayfinder_msg_kinds {H : Type} : DataW H := .agg [.agg [.agg [.lit (.int .i64 0), .lit (.int .i64 0)], .agg [.lit (.int .i64 0), .lit (.int .i64 0)], .lit (.bool false)], .agg [.agg [.lit (.int .i64 0), .lit (.int .i64 1048576)], .agg [.lit (.int .i64 0), .lit (.int .i64 4095)], .lit (.bool false)], .agg [.agg [.lit (.int .i64 1), .lit (.int .i64 1048576)], .agg [.lit (.int .i64 1), .lit (.int .i64 4095)], .lit (.bool true)], .agg [.agg [.lit (.int .i64 1), .lit (.int .i64 1048576)], .agg [.lit (.int .i64 1), .lit (.int .i64 4095)], .lit (.bool false)], .agg [.agg [.lit (.int .i64 1), .lit (.int .i64 1048576)], .agg [.lit (.int .i64 1), .lit (.int .i64 4095)], .lit (.bool false)], .agg [.agg [.lit (.int .i64 1), .lit (.int .i64 1048576)], .agg [.lit (.int .i64 0), .lit (.int .i64 0)], .lit (.bool false)]]

/-- 'wayfinderlaw21.ControlHello': WHATEVER THE INPUT: true; the input reads as it did. -/
def controlHelloSpec : ChangeSpec := { name := "controlHello", fn := fun _ => fun
  | [d1, d2, d3] => { results := [.lit (.bool true)], args := [d1, d2, d3] }
  | _ => none }
def controlHelloRow : OpenClaim := { program := "ytkhjemahenkdiaadoor", sum := "e9f1c31268221df76f8c7d7cc8c7cdebd595a50e94ad3766362f6bef422ccff7", func := "wayfinder/wayfinderlaw21.ControlHello", spec := "controlHello", unfollowed := true, recurses := true, named := ["wayfinder/msg.kinds"], apart := false, laid := [("wayfinder/msg.kinds", laid_wayfinder_msg_kinds)] }
def ControlHelloSaid : Prop := controlHelloRow.holds Tryd.pinned (OpenSpec.ofChange controlHelloSpec)

/-- ITS FALSE NEIGHBOUR: 'it returns false'. Refute it at one input. -/
def controlHelloWrong : ChangeSpec := { name := "controlHello", fn := fun _ => fun
  | [d1, d2, d3] => { results := [.lit (.bool false)], args := [d1, d2, d3] }
  | _ => none }
def ControlHelloWrongFalsely : Prop := controlHelloRow.holds Tryd.pinned (OpenSpec.ofChange controlHelloWrong)

/-- 'wayfinderlaw21.ControlAcks': WHATEVER THE INPUT: true; the input reads as it did. -/
def controlAcksSpec : ChangeSpec := { name := "controlAcks", fn := fun _ => fun
  | [d1, d2, d3, d4, d5] => { results := [.lit (.bool true)], args := [d1, d2, d3, d4, d5] }
  | _ => none }
def controlAcksRow : OpenClaim := { program := "ytkhjemahenkdiaadoor", sum := "e9f1c31268221df76f8c7d7cc8c7cdebd595a50e94ad3766362f6bef422ccff7", func := "wayfinder/wayfinderlaw21.ControlAcks", spec := "controlAcks", unfollowed := true, recurses := true, named := ["wayfinder/msg.kinds"], apart := false, laid := [("wayfinder/msg.kinds", laid_wayfinder_msg_kinds)] }
def ControlAcksSaid : Prop := controlAcksRow.holds Tryd.pinned (OpenSpec.ofChange controlAcksSpec)

/-- ITS FALSE NEIGHBOUR: 'it returns false'. Refute it at one input. -/
def controlAcksWrong : ChangeSpec := { name := "controlAcks", fn := fun _ => fun
  | [d1, d2, d3, d4, d5] => { results := [.lit (.bool false)], args := [d1, d2, d3, d4, d5] }
  | _ => none }
def ControlAcksWrongFalsely : Prop := controlAcksRow.holds Tryd.pinned (OpenSpec.ofChange controlAcksWrong)

/-- 'wayfinderlaw21.ControlTwo': WHATEVER THE INPUT: true; the input reads as it did. -/
def controlTwoSpec : ChangeSpec := { name := "controlTwo", fn := fun _ => fun
  | [d1, d2] => { results := [.lit (.bool true)], args := [d1, d2] }
  | _ => none }
def controlTwoRow : OpenClaim := { program := "ytkhjemahenkdiaadoor", sum := "e9f1c31268221df76f8c7d7cc8c7cdebd595a50e94ad3766362f6bef422ccff7", func := "wayfinder/wayfinderlaw21.ControlTwo", spec := "controlTwo", unfollowed := true, recurses := true, named := ["wayfinder/msg.kinds"], apart := false, laid := [("wayfinder/msg.kinds", laid_wayfinder_msg_kinds)] }
def ControlTwoSaid : Prop := controlTwoRow.holds Tryd.pinned (OpenSpec.ofChange controlTwoSpec)

/-- ITS FALSE NEIGHBOUR: 'it returns false'. Refute it at one input. -/
def controlTwoWrong : ChangeSpec := { name := "controlTwo", fn := fun _ => fun
  | [d1, d2] => { results := [.lit (.bool false)], args := [d1, d2] }
  | _ => none }
def ControlTwoWrongFalsely : Prop := controlTwoRow.holds Tryd.pinned (OpenSpec.ofChange controlTwoWrong)

/-- 'wayfinderlaw21.ControlWaits': WHATEVER THE INPUT: true; the input reads as it did. -/
def controlWaitsSpec : ChangeSpec := { name := "controlWaits", fn := fun _ => fun
  | [d] => { results := [.lit (.bool true)], args := [d] }
  | _ => none }
def controlWaitsRow : OpenClaim := { program := "ytkhjemahenkdiaadoor", sum := "e9f1c31268221df76f8c7d7cc8c7cdebd595a50e94ad3766362f6bef422ccff7", func := "wayfinder/wayfinderlaw21.ControlWaits", spec := "controlWaits", unfollowed := true, recurses := true, named := ["wayfinder/msg.kinds"], apart := false, laid := [("wayfinder/msg.kinds", laid_wayfinder_msg_kinds)] }
def ControlWaitsSaid : Prop := controlWaitsRow.holds Tryd.pinned (OpenSpec.ofChange controlWaitsSpec)

/-- ITS FALSE NEIGHBOUR: 'it returns false'. Refute it at one input. -/
def controlWaitsWrong : ChangeSpec := { name := "controlWaits", fn := fun _ => fun
  | [d] => { results := [.lit (.bool false)], args := [d] }
  | _ => none }
def ControlWaitsWrongFalsely : Prop := controlWaitsRow.holds Tryd.pinned (OpenSpec.ofChange controlWaitsWrong)

/-- 'wayfinderlaw21.ControlPhase': WHATEVER THE INPUT: true; the input reads as it did. -/
def controlPhaseSpec : ChangeSpec := { name := "controlPhase", fn := fun _ => fun
  | [d1, d2] => { results := [.lit (.bool true)], args := [d1, d2] }
  | _ => none }
def controlPhaseRow : OpenClaim := { program := "ytkhjemahenkdiaadoor", sum := "e9f1c31268221df76f8c7d7cc8c7cdebd595a50e94ad3766362f6bef422ccff7", func := "wayfinder/wayfinderlaw21.ControlPhase", spec := "controlPhase", unfollowed := true, recurses := true, named := ["wayfinder/msg.kinds"], apart := false, laid := [("wayfinder/msg.kinds", laid_wayfinder_msg_kinds)] }
def ControlPhaseSaid : Prop := controlPhaseRow.holds Tryd.pinned (OpenSpec.ofChange controlPhaseSpec)

/-- ITS FALSE NEIGHBOUR: 'it returns false'. Refute it at one input. -/
def controlPhaseWrong : ChangeSpec := { name := "controlPhase", fn := fun _ => fun
  | [d1, d2] => { results := [.lit (.bool false)], args := [d1, d2] }
  | _ => none }
def ControlPhaseWrongFalsely : Prop := controlPhaseRow.holds Tryd.pinned (OpenSpec.ofChange controlPhaseWrong)

/- THE SECOND FORM. 'bulk': how many values and letters a reading holds, each counted each time it is reached (what is shared counts as often as it is met; a slice's spare places count too). A statement '..UptoSaid' is the law's where the arguments, and the package variables that the reading takes, are together of bulk at most 1048576: NARROWER than '..Said'. Prove '..Said' where nothing that the law and all that it calls make is longer than what came in: it says more and counts as full. Else prove '..UptoSaid'. A law counts once. -/
mutual
def uptoBulk {H : Type} : DataW H → Nat
  | .lit (.string bytes) => bytes.length + 1
  | .lit _ => 1
  | .nil => 1
  | .ptr d => uptoBulk d + 1
  | .slice elems spare => uptoBulkAll elems + uptoBulkAll spare + 1
  | .agg parts => uptoBulkAll parts + 1
  | .iface _ d => uptoBulk d + 1
  | .map entries => uptoBulkEntries entries + 1
  | .held _ => 1
def uptoBulkAll {H : Type} : List (DataW H) → Nat
  | [] => 0
  | d :: r => uptoBulk d + uptoBulkAll r
def uptoBulkEntries {H : Type} : List (Lit × DataW H) → Nat
  | [] => 0
  | x :: r => uptoBulkEntry x + uptoBulkEntries r
def uptoBulkEntry {H : Type} : Lit × DataW H → Nat
  | (.string bytes, d) => bytes.length + uptoBulk d + 1
  | (_, d) => uptoBulk d + 1
 end
def uptoSmall : (H : Type) → List (DataW H) → Bool := fun _ ds => decide (uptoBulkAll ds ≤ 1048576)
def OpenSpec.upto (s : _root_.Go.ChangeSpec) : _root_.Go.OpenSpec := { _root_.Go.OpenSpec.ofChange s with cond := some uptoSmall }

/-- 'wayfinderlaw21.ControlHello', WHERE WHAT IT READS IS OF BULK AT MOST 1048576: true; the input reads as it did. -/
def controlHelloUptoRow : OpenClaim := { program := "ytkhjemahenkdiaadoor", sum := "e9f1c31268221df76f8c7d7cc8c7cdebd595a50e94ad3766362f6bef422ccff7", func := "wayfinder/wayfinderlaw21.ControlHello", spec := "controlHello", unfollowed := true, recurses := true, named := ["wayfinder/msg.kinds"], apart := false, laid := [("wayfinder/msg.kinds", laid_wayfinder_msg_kinds)], narrowed := true }
def ControlHelloUptoSaid : Prop := controlHelloUptoRow.holds Tryd.pinned (OpenSpec.upto controlHelloSpec)

/-- 'wayfinderlaw21.ControlAcks', WHERE WHAT IT READS IS OF BULK AT MOST 1048576: true; the input reads as it did. -/
def controlAcksUptoRow : OpenClaim := { program := "ytkhjemahenkdiaadoor", sum := "e9f1c31268221df76f8c7d7cc8c7cdebd595a50e94ad3766362f6bef422ccff7", func := "wayfinder/wayfinderlaw21.ControlAcks", spec := "controlAcks", unfollowed := true, recurses := true, named := ["wayfinder/msg.kinds"], apart := false, laid := [("wayfinder/msg.kinds", laid_wayfinder_msg_kinds)], narrowed := true }
def ControlAcksUptoSaid : Prop := controlAcksUptoRow.holds Tryd.pinned (OpenSpec.upto controlAcksSpec)

/-- 'wayfinderlaw21.ControlTwo', WHERE WHAT IT READS IS OF BULK AT MOST 1048576: true; the input reads as it did. -/
def controlTwoUptoRow : OpenClaim := { program := "ytkhjemahenkdiaadoor", sum := "e9f1c31268221df76f8c7d7cc8c7cdebd595a50e94ad3766362f6bef422ccff7", func := "wayfinder/wayfinderlaw21.ControlTwo", spec := "controlTwo", unfollowed := true, recurses := true, named := ["wayfinder/msg.kinds"], apart := false, laid := [("wayfinder/msg.kinds", laid_wayfinder_msg_kinds)], narrowed := true }
def ControlTwoUptoSaid : Prop := controlTwoUptoRow.holds Tryd.pinned (OpenSpec.upto controlTwoSpec)

/-- 'wayfinderlaw21.ControlWaits', WHERE WHAT IT READS IS OF BULK AT MOST 1048576: true; the input reads as it did. -/
def controlWaitsUptoRow : OpenClaim := { program := "ytkhjemahenkdiaadoor", sum := "e9f1c31268221df76f8c7d7cc8c7cdebd595a50e94ad3766362f6bef422ccff7", func := "wayfinder/wayfinderlaw21.ControlWaits", spec := "controlWaits", unfollowed := true, recurses := true, named := ["wayfinder/msg.kinds"], apart := false, laid := [("wayfinder/msg.kinds", laid_wayfinder_msg_kinds)], narrowed := true }
def ControlWaitsUptoSaid : Prop := controlWaitsUptoRow.holds Tryd.pinned (OpenSpec.upto controlWaitsSpec)

/-- 'wayfinderlaw21.ControlPhase', WHERE WHAT IT READS IS OF BULK AT MOST 1048576: true; the input reads as it did. -/
def controlPhaseUptoRow : OpenClaim := { program := "ytkhjemahenkdiaadoor", sum := "e9f1c31268221df76f8c7d7cc8c7cdebd595a50e94ad3766362f6bef422ccff7", func := "wayfinder/wayfinderlaw21.ControlPhase", spec := "controlPhase", unfollowed := true, recurses := true, named := ["wayfinder/msg.kinds"], apart := false, laid := [("wayfinder/msg.kinds", laid_wayfinder_msg_kinds)], narrowed := true }
def ControlPhaseUptoSaid : Prop := controlPhaseUptoRow.holds Tryd.pinned (OpenSpec.upto controlPhaseSpec)

end Rows
end Go.Proofs.YtkhjemahenkdiaaDoor
