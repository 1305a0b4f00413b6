/-
  DERIVED. GIVEN WITH THE SEED: THE CARDS: each row of YtkhjemahenkdiaaGreatDoorRows.lean that lists a variable, with what it lists TIED to the program's text (the seventh form; the later family's looks); each row that meets fmt, with fmt's text TOLD by the authors' own Lean function (tested against real Go, not proved from fmt's source: count such statements apart). THE CARD IS WHAT COUNTS. Prove the row's statement (the work); the ties are given (YtkhjemahenkdiaaGreatDoorTie.lean); close each card by the builder's one call (the guide's Derived/Test/ToyasCard.lean, 'card_holds'). Laid BY PROGRAM, IN A SANDBOX (cutbox-door.mjs). By AI agents, Wed Nov 11 2026. No macro, syntax, notation, axiom, sorry.
-/
import Derived.Test.YtkhjemahenkdiaaGreatDoorRows
import GoSem.ClaimSeven
namespace Go.Proofs.YtkhjemahenkdiaaGreatDoor
namespace Rows

/-- THE TIED CARD OF 'wayfinderlaw21.ControlHears'. -/
def controlHearsCard : Claim7 := { stood := { row := controlHearsRow, standIns := [], harness := (true, "9cd710a2e8a588732f2817cd8144c8c08a3d6c8f23c65476cd25f4212cf9e1c6"), looks := false }, kinds := [], alts := [], laidByText := true, laidKinds := [.data], laidTests := true, laidLooks := .later }
def ControlHearsCardSaid : Prop := Claim7.holds Tryz.pinned (.plain (OpenSpec.ofChange controlHearsSpec)) controlHearsCard

/-- THE TIED CARD OF 'wayfinderlaw21.ControlAsked'. -/
def controlAskedCard : Claim7 := { stood := { row := controlAskedRow, standIns := [], harness := (true, "9cd710a2e8a588732f2817cd8144c8c08a3d6c8f23c65476cd25f4212cf9e1c6"), looks := false }, kinds := [], alts := [], laidByText := true, laidKinds := [.data], laidTests := true, laidLooks := .later }
def ControlAskedCardSaid : Prop := Claim7.holds Tryz.pinned (.plain (OpenSpec.ofChange controlAskedSpec)) controlAskedCard

/-- THE TIED CARD OF 'wayfinderlaw21.ControlTicks'. -/
def controlTicksCard : Claim7 := { stood := { row := controlTicksRow, standIns := [], harness := (true, "9cd710a2e8a588732f2817cd8144c8c08a3d6c8f23c65476cd25f4212cf9e1c6"), looks := false }, kinds := [], alts := [], laidByText := true, laidKinds := [.data], laidTests := true, laidLooks := .later }
def ControlTicksCardSaid : Prop := Claim7.holds Tryz.pinned (.plain (OpenSpec.ofChange controlTicksSpec)) controlTicksCard

/-- THE TIED CARD OF 'wayfinderlaw21.ControlOwn'. -/
def controlOwnCard : Claim7 := { stood := { row := controlOwnRow, standIns := [], harness := (true, "9cd710a2e8a588732f2817cd8144c8c08a3d6c8f23c65476cd25f4212cf9e1c6"), looks := false }, kinds := [], alts := [], laidByText := true, laidKinds := [.data], laidTests := true, laidLooks := .later }
def ControlOwnCardSaid : Prop := Claim7.holds Tryz.pinned (.plain (OpenSpec.ofChange controlOwnSpec)) controlOwnCard

/-- THE SECOND FORM's CARD OF 'wayfinderlaw21.ControlHears'. -/
def controlHearsUptoCard : Claim7 := { stood := { row := controlHearsUptoRow, standIns := [], harness := (true, "9cd710a2e8a588732f2817cd8144c8c08a3d6c8f23c65476cd25f4212cf9e1c6"), looks := false }, kinds := [], alts := [], laidByText := true, laidKinds := [.data], laidTests := true, laidLooks := .later }
def ControlHearsUptoCardSaid : Prop := Claim7.holds Tryz.pinned (.plain (OpenSpec.upto controlHearsSpec)) controlHearsUptoCard

/-- THE SECOND FORM's CARD OF 'wayfinderlaw21.ControlAsked'. -/
def controlAskedUptoCard : Claim7 := { stood := { row := controlAskedUptoRow, standIns := [], harness := (true, "9cd710a2e8a588732f2817cd8144c8c08a3d6c8f23c65476cd25f4212cf9e1c6"), looks := false }, kinds := [], alts := [], laidByText := true, laidKinds := [.data], laidTests := true, laidLooks := .later }
def ControlAskedUptoCardSaid : Prop := Claim7.holds Tryz.pinned (.plain (OpenSpec.upto controlAskedSpec)) controlAskedUptoCard

/-- THE SECOND FORM's CARD OF 'wayfinderlaw21.ControlTicks'. -/
def controlTicksUptoCard : Claim7 := { stood := { row := controlTicksUptoRow, standIns := [], harness := (true, "9cd710a2e8a588732f2817cd8144c8c08a3d6c8f23c65476cd25f4212cf9e1c6"), looks := false }, kinds := [], alts := [], laidByText := true, laidKinds := [.data], laidTests := true, laidLooks := .later }
def ControlTicksUptoCardSaid : Prop := Claim7.holds Tryz.pinned (.plain (OpenSpec.upto controlTicksSpec)) controlTicksUptoCard

/-- THE SECOND FORM's CARD OF 'wayfinderlaw21.ControlOwn'. -/
def controlOwnUptoCard : Claim7 := { stood := { row := controlOwnUptoRow, standIns := [], harness := (true, "9cd710a2e8a588732f2817cd8144c8c08a3d6c8f23c65476cd25f4212cf9e1c6"), looks := false }, kinds := [], alts := [], laidByText := true, laidKinds := [.data], laidTests := true, laidLooks := .later }
def ControlOwnUptoCardSaid : Prop := Claim7.holds Tryz.pinned (.plain (OpenSpec.upto controlOwnSpec)) controlOwnUptoCard
end Rows
end Go.Proofs.YtkhjemahenkdiaaGreatDoor
