/-
  DERIVED. GIVEN WITH THE SEED: THE CARDS: each row of YtkhjemahenkdiaaDoorRows.lean that lists a variable, with what it lists TIED to the program's text (the seventh form; the later family's looks); each row that meets fmt, with fmt's text TOLD by the authors' own Lean function (tested against real Go, not proved from fmt's source: count such statements apart). THE CARD IS WHAT COUNTS. Prove the row's statement (the work); the ties are given (YtkhjemahenkdiaaDoorTie.lean); close each card by the builder's one call (the guide's Derived/Test/ToyasCard.lean, 'card_holds'). Laid BY PROGRAM, IN A SANDBOX (cutbox-door.mjs). By AI agents, Wed Nov 11 2026. No macro, syntax, notation, axiom, sorry.
-/
import Derived.Test.YtkhjemahenkdiaaDoorRows
import GoSem.ClaimSeven
namespace Go.Proofs.YtkhjemahenkdiaaDoor
namespace Rows

/-- THE TIED CARD OF 'wayfinderlaw21.ControlHello'. -/
def controlHelloCard : Claim7 := { stood := { row := controlHelloRow, standIns := [], harness := (true, "689c30c13182382b69e4ad258975f8caab5909afd10a7696181f78150eab863f"), looks := false }, kinds := [], alts := [], laidByText := true, laidKinds := [.data], laidTests := true, laidLooks := .later }
def ControlHelloCardSaid : Prop := Claim7.holds Tryd.pinned (.plain (OpenSpec.ofChange controlHelloSpec)) controlHelloCard

/-- THE TIED CARD OF 'wayfinderlaw21.ControlAcks'. -/
def controlAcksCard : Claim7 := { stood := { row := controlAcksRow, standIns := [], harness := (true, "689c30c13182382b69e4ad258975f8caab5909afd10a7696181f78150eab863f"), looks := false }, kinds := [], alts := [], laidByText := true, laidKinds := [.data], laidTests := true, laidLooks := .later }
def ControlAcksCardSaid : Prop := Claim7.holds Tryd.pinned (.plain (OpenSpec.ofChange controlAcksSpec)) controlAcksCard

/-- THE TIED CARD OF 'wayfinderlaw21.ControlTwo'. -/
def controlTwoCard : Claim7 := { stood := { row := controlTwoRow, standIns := [], harness := (true, "689c30c13182382b69e4ad258975f8caab5909afd10a7696181f78150eab863f"), looks := false }, kinds := [], alts := [], laidByText := true, laidKinds := [.data], laidTests := true, laidLooks := .later }
def ControlTwoCardSaid : Prop := Claim7.holds Tryd.pinned (.plain (OpenSpec.ofChange controlTwoSpec)) controlTwoCard

/-- THE TIED CARD OF 'wayfinderlaw21.ControlWaits'. -/
def controlWaitsCard : Claim7 := { stood := { row := controlWaitsRow, standIns := [], harness := (true, "689c30c13182382b69e4ad258975f8caab5909afd10a7696181f78150eab863f"), looks := false }, kinds := [], alts := [], laidByText := true, laidKinds := [.data], laidTests := true, laidLooks := .later }
def ControlWaitsCardSaid : Prop := Claim7.holds Tryd.pinned (.plain (OpenSpec.ofChange controlWaitsSpec)) controlWaitsCard

/-- THE TIED CARD OF 'wayfinderlaw21.ControlPhase'. -/
def controlPhaseCard : Claim7 := { stood := { row := controlPhaseRow, standIns := [], harness := (true, "689c30c13182382b69e4ad258975f8caab5909afd10a7696181f78150eab863f"), looks := false }, kinds := [], alts := [], laidByText := true, laidKinds := [.data], laidTests := true, laidLooks := .later }
def ControlPhaseCardSaid : Prop := Claim7.holds Tryd.pinned (.plain (OpenSpec.ofChange controlPhaseSpec)) controlPhaseCard

/-- THE SECOND FORM's CARD OF 'wayfinderlaw21.ControlHello'. -/
def controlHelloUptoCard : Claim7 := { stood := { row := controlHelloUptoRow, standIns := [], harness := (true, "689c30c13182382b69e4ad258975f8caab5909afd10a7696181f78150eab863f"), looks := false }, kinds := [], alts := [], laidByText := true, laidKinds := [.data], laidTests := true, laidLooks := .later }
def ControlHelloUptoCardSaid : Prop := Claim7.holds Tryd.pinned (.plain (OpenSpec.upto controlHelloSpec)) controlHelloUptoCard

/-- THE SECOND FORM's CARD OF 'wayfinderlaw21.ControlAcks'. -/
def controlAcksUptoCard : Claim7 := { stood := { row := controlAcksUptoRow, standIns := [], harness := (true, "689c30c13182382b69e4ad258975f8caab5909afd10a7696181f78150eab863f"), looks := false }, kinds := [], alts := [], laidByText := true, laidKinds := [.data], laidTests := true, laidLooks := .later }
def ControlAcksUptoCardSaid : Prop := Claim7.holds Tryd.pinned (.plain (OpenSpec.upto controlAcksSpec)) controlAcksUptoCard

/-- THE SECOND FORM's CARD OF 'wayfinderlaw21.ControlTwo'. -/
def controlTwoUptoCard : Claim7 := { stood := { row := controlTwoUptoRow, standIns := [], harness := (true, "689c30c13182382b69e4ad258975f8caab5909afd10a7696181f78150eab863f"), looks := false }, kinds := [], alts := [], laidByText := true, laidKinds := [.data], laidTests := true, laidLooks := .later }
def ControlTwoUptoCardSaid : Prop := Claim7.holds Tryd.pinned (.plain (OpenSpec.upto controlTwoSpec)) controlTwoUptoCard

/-- THE SECOND FORM's CARD OF 'wayfinderlaw21.ControlWaits'. -/
def controlWaitsUptoCard : Claim7 := { stood := { row := controlWaitsUptoRow, standIns := [], harness := (true, "689c30c13182382b69e4ad258975f8caab5909afd10a7696181f78150eab863f"), looks := false }, kinds := [], alts := [], laidByText := true, laidKinds := [.data], laidTests := true, laidLooks := .later }
def ControlWaitsUptoCardSaid : Prop := Claim7.holds Tryd.pinned (.plain (OpenSpec.upto controlWaitsSpec)) controlWaitsUptoCard

/-- THE SECOND FORM's CARD OF 'wayfinderlaw21.ControlPhase'. -/
def controlPhaseUptoCard : Claim7 := { stood := { row := controlPhaseUptoRow, standIns := [], harness := (true, "689c30c13182382b69e4ad258975f8caab5909afd10a7696181f78150eab863f"), looks := false }, kinds := [], alts := [], laidByText := true, laidKinds := [.data], laidTests := true, laidLooks := .later }
def ControlPhaseUptoCardSaid : Prop := Claim7.holds Tryd.pinned (.plain (OpenSpec.upto controlPhaseSpec)) controlPhaseUptoCard
end Rows
end Go.Proofs.YtkhjemahenkdiaaDoor
