/-
  DERIVED. GIVEN WITH THE SEED: THE CARDS: each row of YthfdkmbijjkmaaaDoorRows.lean that lists a variable, with what it lists TIED to the program's text (the seventh form; the later family's looks); each row that meets fmt, with fmt's text TOLD by the authors' own Lean function (tested against real Go, not proved from fmt's source: count such statements apart). THE CARD IS WHAT COUNTS. Prove the row's statement (the work); the ties are given (YthfdkmbijjkmaaaDoorTie.lean); close each card by the builder's one call (the guide's Derived/Test/ToyasCard.lean, 'card_holds'). Laid BY PROGRAM, IN A SANDBOX (cutbox-door.mjs). By AI agents, Wed Nov 11 2026. No macro, syntax, notation, axiom, sorry.
-/
import Derived.Test.YthfdkmbijjkmaaaDoorRows
import GoSem.ClaimSeven
namespace Go.Proofs.YthfdkmbijjkmaaaDoor
namespace Rows

/-- THE TIED CARD OF 'wayfinderlaw17.AgentHails'. -/
def agentHailsCard : Claim7 := { stood := { row := agentHailsRow, standIns := [], harness := (true, "de4f5f0cf7e19a965f6c8db88a0733b6fe73f44df0dd2af3a469b072dbbe3762"), looks := false }, kinds := [], alts := [], laidByText := true, laidKinds := [.data], laidTests := true, laidLooks := .later }
def AgentHailsCardSaid : Prop := Claim7.holds Tryd.pinned (.plain (OpenSpec.ofChange agentHailsSpec)) agentHailsCard

/-- THE TIED CARD OF 'wayfinderlaw17.AgentRestarts'. -/
def agentRestartsCard : Claim7 := { stood := { row := agentRestartsRow, standIns := [], harness := (true, "de4f5f0cf7e19a965f6c8db88a0733b6fe73f44df0dd2af3a469b072dbbe3762"), looks := false }, kinds := [], alts := [], laidByText := true, laidKinds := [.data], laidTests := true, laidLooks := .later }
def AgentRestartsCardSaid : Prop := Claim7.holds Tryd.pinned (.plain (OpenSpec.ofChange agentRestartsSpec)) agentRestartsCard

/-- THE TIED CARD OF 'wayfinderlaw17.AgentRuns'. -/
def agentRunsCard : Claim7 := { stood := { row := agentRunsRow, standIns := [], harness := (true, "de4f5f0cf7e19a965f6c8db88a0733b6fe73f44df0dd2af3a469b072dbbe3762"), looks := false }, kinds := [], alts := [], laidByText := true, laidKinds := [.data], laidTests := true, laidLooks := .later }
def AgentRunsCardSaid : Prop := Claim7.holds Tryd.pinned (.plain (OpenSpec.ofChange agentRunsSpec)) agentRunsCard

/-- THE TIED CARD OF 'wayfinderlaw20.PlanSyncs'. -/
def planSyncsCard : Claim7 := { stood := { row := planSyncsRow, standIns := [], harness := (true, "de4f5f0cf7e19a965f6c8db88a0733b6fe73f44df0dd2af3a469b072dbbe3762"), looks := false }, kinds := [], alts := [], laidByText := true, laidKinds := [.data], laidTests := true, laidLooks := .later }
def PlanSyncsCardSaid : Prop := Claim7.holds Tryd.pinned (.plain (OpenSpec.ofChange planSyncsSpec)) planSyncsCard

/-- THE SECOND FORM's CARD OF 'wayfinderlaw17.AgentHails'. -/
def agentHailsUptoCard : Claim7 := { stood := { row := agentHailsUptoRow, standIns := [], harness := (true, "de4f5f0cf7e19a965f6c8db88a0733b6fe73f44df0dd2af3a469b072dbbe3762"), looks := false }, kinds := [], alts := [], laidByText := true, laidKinds := [.data], laidTests := true, laidLooks := .later }
def AgentHailsUptoCardSaid : Prop := Claim7.holds Tryd.pinned (.plain (OpenSpec.upto agentHailsSpec)) agentHailsUptoCard

/-- THE SECOND FORM's CARD OF 'wayfinderlaw17.AgentRestarts'. -/
def agentRestartsUptoCard : Claim7 := { stood := { row := agentRestartsUptoRow, standIns := [], harness := (true, "de4f5f0cf7e19a965f6c8db88a0733b6fe73f44df0dd2af3a469b072dbbe3762"), looks := false }, kinds := [], alts := [], laidByText := true, laidKinds := [.data], laidTests := true, laidLooks := .later }
def AgentRestartsUptoCardSaid : Prop := Claim7.holds Tryd.pinned (.plain (OpenSpec.upto agentRestartsSpec)) agentRestartsUptoCard

/-- THE SECOND FORM's CARD OF 'wayfinderlaw17.AgentRuns'. -/
def agentRunsUptoCard : Claim7 := { stood := { row := agentRunsUptoRow, standIns := [], harness := (true, "de4f5f0cf7e19a965f6c8db88a0733b6fe73f44df0dd2af3a469b072dbbe3762"), looks := false }, kinds := [], alts := [], laidByText := true, laidKinds := [.data], laidTests := true, laidLooks := .later }
def AgentRunsUptoCardSaid : Prop := Claim7.holds Tryd.pinned (.plain (OpenSpec.upto agentRunsSpec)) agentRunsUptoCard

/-- THE SECOND FORM's CARD OF 'wayfinderlaw20.PlanSyncs'. -/
def planSyncsUptoCard : Claim7 := { stood := { row := planSyncsUptoRow, standIns := [], harness := (true, "de4f5f0cf7e19a965f6c8db88a0733b6fe73f44df0dd2af3a469b072dbbe3762"), looks := false }, kinds := [], alts := [], laidByText := true, laidKinds := [.data], laidTests := true, laidLooks := .later }
def PlanSyncsUptoCardSaid : Prop := Claim7.holds Tryd.pinned (.plain (OpenSpec.upto planSyncsSpec)) planSyncsUptoCard
end Rows
end Go.Proofs.YthfdkmbijjkmaaaDoor
