/-
  NARROWER THAN 'FOR EVERY INPUT', by the rows' own cells (each row's printed sentence says how): AgentHails: laid · AgentRestarts: laid · AgentRuns: laid · PlanSyncs: laid.
  DERIVED. THE GIVEN ROWS OF THIS SEAT. 4 by the template 'for every input the law returns true; each argument reads behind the call as it read before'; 0 by the template 'total and deterministic' (their statements: YthfdkmbijjkmaaaDoorTotals.lean).
  GIVEN WITH THE SEED: the statements are not yours to turn. If you find one false, say at which input.
  Laid BY PROGRAM, IN A SANDBOX (cutbox-rows.mjs): the forced cells as the released guide's own fill.sh prints them over the translation 6af2866402404fcb… (all of the seat's roots in one cut). By AI agents, Wed Nov 11 2026. No macro, syntax, notation, axiom, sorry.
-/
import Derived.Test.YthfdkmbijjkmaaaDoorChecked
import GoSem.Claim
import GoSem.ClaimJoined
import GoSem.ClaimMapViews
import Derived.JoinedTies
import Derived.KernelRfl
namespace Go.Proofs.YthfdkmbijjkmaaaDoor
/- THE CELL 'sum', in the pinned program and in every row, IS THE sha256 OF THE DUMP (.gsa) THAT YthfdkmbijjkmaaaDoorProg.lean LOADS. Nothing in Lean hashes anything: it is a label: what it is worth is what the hold of that sum in a sandbox is worth. -/
noncomputable def Tryd.pinned : Pinned := { name := "ythfdkmbijjkmaaadoor", sum := "6af2866402404fcba66433e4b6fa0a45ba8355610f90610677858f3361c8ed35", checked := Tryd.checked }
namespace Rows
def none {H : Type} : Left H := { results := [], args := [] }

/- WHAT THE LISTED PACKAGE-LEVEL VARIABLES READ AS WHEN THE CALL BEGINS. Each datum BY PROGRAM (the guide's laid-datum.mjs) off the statement by which the dump's own 'gosem.cut.vars' lays the variable. In a bare row this is a premise. The card (YthfdkmbijjkmaaaDoorCards.lean) ties it to the program's text. -/
def laid_wayfinder_msg_kinds {H : Type} : DataW H := .agg [.agg [.agg [.lit (.int .i64 0), .lit (.int .i64 0)], .agg [.lit (.int .i64 0), .lit (.int .i64 0)], .lit (.bool false)], .agg [.agg [.lit (.int .i64 0), .lit (.int .i64 1048576)], .agg [.lit (.int .i64 0), .lit (.int .i64 4095)], .lit (.bool false)], .agg [.agg [.lit (.int .i64 1), .lit (.int .i64 1048576)], .agg [.lit (.int .i64 1), .lit (.int .i64 4095)], .lit (.bool true)], .agg [.agg [.lit (.int .i64 1), .lit (.int .i64 1048576)], .agg [.lit (.int .i64 1), .lit (.int .i64 4095)], .lit (.bool false)], .agg [.agg [.lit (.int .i64 1), .lit (.int .i64 1048576)], .agg [.lit (.int .i64 1), .lit (.int .i64 4095)], .lit (.bool false)], .agg [.agg [.lit (.int .i64 1), .lit (.int .i64 1048576)], .agg [.lit (.int .i64 0), .lit (.int .i64 0)], .lit (.bool false)]]

/-- 'wayfinderlaw17.AgentHails': WHATEVER THE INPUT: true; the input reads as it did. -/
def agentHailsSpec : ChangeSpec := { name := "agentHails", fn := fun _ => fun
  | [d1, d2] => { results := [.lit (.bool true)], args := [d1, d2] }
  | _ => none }
def agentHailsRow : OpenClaim := { program := "ythfdkmbijjkmaaadoor", sum := "6af2866402404fcba66433e4b6fa0a45ba8355610f90610677858f3361c8ed35", func := "wayfinder/wayfinderlaw17.AgentHails", spec := "agentHails", inPlace := ["slices.overlaps[wayfinder/api.Ver]"], unfollowed := true, recurses := true, named := ["wayfinder/msg.kinds"], apart := false, laid := [("wayfinder/msg.kinds", laid_wayfinder_msg_kinds)] }
def AgentHailsSaid : Prop := agentHailsRow.holds Tryd.pinned (OpenSpec.ofChange agentHailsSpec)

/-- ITS FALSE NEIGHBOUR: 'it returns false'. Refute it at one input. -/
def agentHailsWrong : ChangeSpec := { name := "agentHails", fn := fun _ => fun
  | [d1, d2] => { results := [.lit (.bool false)], args := [d1, d2] }
  | _ => none }
def AgentHailsWrongFalsely : Prop := agentHailsRow.holds Tryd.pinned (OpenSpec.ofChange agentHailsWrong)

/-- 'wayfinderlaw17.AgentRestarts': WHATEVER THE INPUT: true; the input reads as it did. -/
def agentRestartsSpec : ChangeSpec := { name := "agentRestarts", fn := fun _ => fun
  | [d1, d2] => { results := [.lit (.bool true)], args := [d1, d2] }
  | _ => none }
def agentRestartsRow : OpenClaim := { program := "ythfdkmbijjkmaaadoor", sum := "6af2866402404fcba66433e4b6fa0a45ba8355610f90610677858f3361c8ed35", func := "wayfinder/wayfinderlaw17.AgentRestarts", spec := "agentRestarts", inPlace := ["slices.overlaps[wayfinder/api.Ver]"], unfollowed := true, recurses := true, named := ["wayfinder/msg.kinds"], apart := false, laid := [("wayfinder/msg.kinds", laid_wayfinder_msg_kinds)] }
def AgentRestartsSaid : Prop := agentRestartsRow.holds Tryd.pinned (OpenSpec.ofChange agentRestartsSpec)

/-- ITS FALSE NEIGHBOUR: 'it returns false'. Refute it at one input. -/
def agentRestartsWrong : ChangeSpec := { name := "agentRestarts", fn := fun _ => fun
  | [d1, d2] => { results := [.lit (.bool false)], args := [d1, d2] }
  | _ => none }
def AgentRestartsWrongFalsely : Prop := agentRestartsRow.holds Tryd.pinned (OpenSpec.ofChange agentRestartsWrong)

/-- 'wayfinderlaw17.AgentRuns': WHATEVER THE INPUT: true; the input reads as it did. -/
def agentRunsSpec : ChangeSpec := { name := "agentRuns", fn := fun _ => fun
  | [d] => { results := [.lit (.bool true)], args := [d] }
  | _ => none }
def agentRunsRow : OpenClaim := { program := "ythfdkmbijjkmaaadoor", sum := "6af2866402404fcba66433e4b6fa0a45ba8355610f90610677858f3361c8ed35", func := "wayfinder/wayfinderlaw17.AgentRuns", spec := "agentRuns", inPlace := ["slices.overlaps[wayfinder/api.Ver]"], unfollowed := true, recurses := true, named := ["wayfinder/msg.kinds"], apart := false, laid := [("wayfinder/msg.kinds", laid_wayfinder_msg_kinds)] }
def AgentRunsSaid : Prop := agentRunsRow.holds Tryd.pinned (OpenSpec.ofChange agentRunsSpec)

/-- ITS FALSE NEIGHBOUR: 'it returns false'. Refute it at one input. -/
def agentRunsWrong : ChangeSpec := { name := "agentRuns", fn := fun _ => fun
  | [d] => { results := [.lit (.bool false)], args := [d] }
  | _ => none }
def AgentRunsWrongFalsely : Prop := agentRunsRow.holds Tryd.pinned (OpenSpec.ofChange agentRunsWrong)

/-- 'wayfinderlaw20.PlanSyncs': WHATEVER THE INPUT: true; the input reads as it did. -/
def planSyncsSpec : ChangeSpec := { name := "planSyncs", fn := fun _ => fun
  | [d1, d2] => { results := [.lit (.bool true)], args := [d1, d2] }
  | _ => none }
def planSyncsRow : OpenClaim := { program := "ythfdkmbijjkmaaadoor", sum := "6af2866402404fcba66433e4b6fa0a45ba8355610f90610677858f3361c8ed35", func := "wayfinder/wayfinderlaw20.PlanSyncs", spec := "planSyncs", inPlace := ["slices.overlaps[wayfinder/api.Ver]"], unfollowed := true, recurses := true, named := ["wayfinder/msg.kinds"], apart := false, laid := [("wayfinder/msg.kinds", laid_wayfinder_msg_kinds)] }
def PlanSyncsSaid : Prop := planSyncsRow.holds Tryd.pinned (OpenSpec.ofChange planSyncsSpec)

/-- ITS FALSE NEIGHBOUR: 'it returns false'. Refute it at one input. -/
def planSyncsWrong : ChangeSpec := { name := "planSyncs", fn := fun _ => fun
  | [d1, d2] => { results := [.lit (.bool false)], args := [d1, d2] }
  | _ => none }
def PlanSyncsWrongFalsely : Prop := planSyncsRow.holds Tryd.pinned (OpenSpec.ofChange planSyncsWrong)

/- THE SECOND FORM. 'bulk': how many values and letters a reading holds, each counted each time it is reached (what is shared counts as often as it is met; a slice's spare places count too). A statement '..UptoSaid' is the law's where the arguments, and the package variables that the reading takes, are together of bulk at most 1048576: NARROWER than '..Said'. Prove '..Said' where nothing that the law and all that it calls make is longer than what came in: it says more and counts as full. Else prove '..UptoSaid'. A law counts once. -/
mutual
def uptoBulk {H : Type} : DataW H → Nat
  | .lit (.string bytes) => bytes.length + 1
  | .lit _ => 1
  | .nil => 1
  | .ptr d => uptoBulk d + 1
  | .slice elems spare => uptoBulkAll elems + uptoBulkAll spare + 1
  | .agg parts => uptoBulkAll parts + 1
  | .iface _ d => uptoBulk d + 1
  | .map entries => uptoBulkEntries entries + 1
  | .held _ => 1
def uptoBulkAll {H : Type} : List (DataW H) → Nat
  | [] => 0
  | d :: r => uptoBulk d + uptoBulkAll r
def uptoBulkEntries {H : Type} : List (Lit × DataW H) → Nat
  | [] => 0
  | x :: r => uptoBulkEntry x + uptoBulkEntries r
def uptoBulkEntry {H : Type} : Lit × DataW H → Nat
  | (.string bytes, d) => bytes.length + uptoBulk d + 1
  | (_, d) => uptoBulk d + 1
 end
def uptoSmall : (H : Type) → List (DataW H) → Bool := fun _ ds => decide (uptoBulkAll ds ≤ 1048576)
def OpenSpec.upto (s : _root_.Go.ChangeSpec) : _root_.Go.OpenSpec := { _root_.Go.OpenSpec.ofChange s with cond := some uptoSmall }

/-- 'wayfinderlaw17.AgentHails', WHERE WHAT IT READS IS OF BULK AT MOST 1048576: true; the input reads as it did. -/
def agentHailsUptoRow : OpenClaim := { program := "ythfdkmbijjkmaaadoor", sum := "6af2866402404fcba66433e4b6fa0a45ba8355610f90610677858f3361c8ed35", func := "wayfinder/wayfinderlaw17.AgentHails", spec := "agentHails", inPlace := ["slices.overlaps[wayfinder/api.Ver]"], unfollowed := true, recurses := true, named := ["wayfinder/msg.kinds"], apart := false, laid := [("wayfinder/msg.kinds", laid_wayfinder_msg_kinds)], narrowed := true }
def AgentHailsUptoSaid : Prop := agentHailsUptoRow.holds Tryd.pinned (OpenSpec.upto agentHailsSpec)

/-- 'wayfinderlaw17.AgentRestarts', WHERE WHAT IT READS IS OF BULK AT MOST 1048576: true; the input reads as it did. -/
def agentRestartsUptoRow : OpenClaim := { program := "ythfdkmbijjkmaaadoor", sum := "6af2866402404fcba66433e4b6fa0a45ba8355610f90610677858f3361c8ed35", func := "wayfinder/wayfinderlaw17.AgentRestarts", spec := "agentRestarts", inPlace := ["slices.overlaps[wayfinder/api.Ver]"], unfollowed := true, recurses := true, named := ["wayfinder/msg.kinds"], apart := false, laid := [("wayfinder/msg.kinds", laid_wayfinder_msg_kinds)], narrowed := true }
def AgentRestartsUptoSaid : Prop := agentRestartsUptoRow.holds Tryd.pinned (OpenSpec.upto agentRestartsSpec)

/-- 'wayfinderlaw17.AgentRuns', WHERE WHAT IT READS IS OF BULK AT MOST 1048576: true; the input reads as it did. -/
def agentRunsUptoRow : OpenClaim := { program := "ythfdkmbijjkmaaadoor", sum := "6af2866402404fcba66433e4b6fa0a45ba8355610f90610677858f3361c8ed35", func := "wayfinder/wayfinderlaw17.AgentRuns", spec := "agentRuns", inPlace := ["slices.overlaps[wayfinder/api.Ver]"], unfollowed := true, recurses := true, named := ["wayfinder/msg.kinds"], apart := false, laid := [("wayfinder/msg.kinds", laid_wayfinder_msg_kinds)], narrowed := true }
def AgentRunsUptoSaid : Prop := agentRunsUptoRow.holds Tryd.pinned (OpenSpec.upto agentRunsSpec)

/-- 'wayfinderlaw20.PlanSyncs', WHERE WHAT IT READS IS OF BULK AT MOST 1048576: true; the input reads as it did. -/
def planSyncsUptoRow : OpenClaim := { program := "ythfdkmbijjkmaaadoor", sum := "6af2866402404fcba66433e4b6fa0a45ba8355610f90610677858f3361c8ed35", func := "wayfinder/wayfinderlaw20.PlanSyncs", spec := "planSyncs", inPlace := ["slices.overlaps[wayfinder/api.Ver]"], unfollowed := true, recurses := true, named := ["wayfinder/msg.kinds"], apart := false, laid := [("wayfinder/msg.kinds", laid_wayfinder_msg_kinds)], narrowed := true }
def PlanSyncsUptoSaid : Prop := planSyncsUptoRow.holds Tryd.pinned (OpenSpec.upto planSyncsSpec)

end Rows
end Go.Proofs.YthfdkmbijjkmaaaDoor
