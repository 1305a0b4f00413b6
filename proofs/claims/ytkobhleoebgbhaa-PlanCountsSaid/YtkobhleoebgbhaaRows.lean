/-
  No cell of these rows narrows 'for every input' (looked for: loops, veiled, ifaces, maps, wideKeys, modest, calm, conditions, laid).
  DERIVED. THE GIVEN ROWS OF THIS SEAT. 9 by the template 'for every input the law returns true; each argument reads behind the call as it read before'; 0 by the template 'total and deterministic' (their statements: YtkobhleoebgbhaaTotals.lean).
  GIVEN WITH THE SEED: the statements are not yours to turn. If you find one false, say at which input.
  Laid BY PROGRAM, IN A SANDBOX (cutbox-rows.mjs): the forced cells as the released guide's own fill.sh prints them over the translation cc7e6284c7887b2c… (all of the seat's roots in one cut). By AI agents, Wed Nov 11 2026. No macro, syntax, notation, axiom, sorry.
-/
import Derived.Test.YtkobhleoebgbhaaChecked
import GoSem.Claim
import GoSem.ClaimJoined
import GoSem.ClaimMapViews
import Derived.JoinedTies
import Derived.KernelRfl
namespace Go.Proofs.Ytkobhleoebgbhaa
/- THE CELL 'sum', in the pinned program and in every row, IS THE sha256 OF THE DUMP (.gsa) THAT YtkobhleoebgbhaaProg.lean LOADS. Nothing in Lean hashes anything: it is a label: what it is worth is what the hold of that sum in a sandbox is worth. -/
noncomputable def Try.pinned : Pinned := { name := "ytkobhleoebgbhaa", sum := "cc7e6284c7887b2c4e4de254a7f4fc630a94537653d2a4b5bf2b06e5f3477830", checked := Try.checked }
namespace Rows
def none {H : Type} : Left H := { results := [], args := [] }

/-- 'wayfinderlaw15.SessOnce': WHATEVER THE INPUT: true; the input reads as it did. -/
def sessOnceSpec : ChangeSpec := { name := "sessOnce", fn := fun _ => fun
  | [d] => { results := [.lit (.bool true)], args := [d] }
  | _ => none }
def sessOnceRow : OpenClaim := { program := "ytkobhleoebgbhaa", sum := "cc7e6284c7887b2c4e4de254a7f4fc630a94537653d2a4b5bf2b06e5f3477830", func := "wayfinder/wayfinderlaw15.SessOnce", spec := "sessOnce", unfollowed := true, recurses := true, apart := false }
def SessOnceSaid : Prop := sessOnceRow.holds Try.pinned (OpenSpec.ofChange sessOnceSpec)

/-- ITS FALSE NEIGHBOUR: 'it returns false'. Refute it at one input. -/
def sessOnceWrong : ChangeSpec := { name := "sessOnce", fn := fun _ => fun
  | [d] => { results := [.lit (.bool false)], args := [d] }
  | _ => none }
def SessOnceWrongFalsely : Prop := sessOnceRow.holds Try.pinned (OpenSpec.ofChange sessOnceWrong)

/-- 'wayfinderlaw20.PlanCounts': WHATEVER THE INPUT: true; the input reads as it did. -/
def planCountsSpec : ChangeSpec := { name := "planCounts", fn := fun _ => fun
  | [d1, d2, d3] => { results := [.lit (.bool true)], args := [d1, d2, d3] }
  | _ => none }
def planCountsRow : OpenClaim := { program := "ytkobhleoebgbhaa", sum := "cc7e6284c7887b2c4e4de254a7f4fc630a94537653d2a4b5bf2b06e5f3477830", func := "wayfinder/wayfinderlaw20.PlanCounts", spec := "planCounts", unfollowed := true, recurses := true, apart := false }
def PlanCountsSaid : Prop := planCountsRow.holds Try.pinned (OpenSpec.ofChange planCountsSpec)

/-- ITS FALSE NEIGHBOUR: 'it returns false'. Refute it at one input. -/
def planCountsWrong : ChangeSpec := { name := "planCounts", fn := fun _ => fun
  | [d1, d2, d3] => { results := [.lit (.bool false)], args := [d1, d2, d3] }
  | _ => none }
def PlanCountsWrongFalsely : Prop := planCountsRow.holds Try.pinned (OpenSpec.ofChange planCountsWrong)

/-- 'wayfinderlaw09.TableLooks': WHATEVER THE INPUT: true; the input reads as it did. -/
def tableLooksSpec : ChangeSpec := { name := "tableLooks", fn := fun _ => fun
  | [d1, d2, d3, d4] => { results := [.lit (.bool true)], args := [d1, d2, d3, d4] }
  | _ => none }
def tableLooksRow : OpenClaim := { program := "ytkobhleoebgbhaa", sum := "cc7e6284c7887b2c4e4de254a7f4fc630a94537653d2a4b5bf2b06e5f3477830", func := "wayfinder/wayfinderlaw09.TableLooks", spec := "tableLooks", inPlace := ["slices.overlaps[wayfinder/api.Ver]"], unfollowed := true, recurses := true, apart := false }
def TableLooksSaid : Prop := tableLooksRow.holds Try.pinned (OpenSpec.ofChange tableLooksSpec)

/-- ITS FALSE NEIGHBOUR: 'it returns false'. Refute it at one input. -/
def tableLooksWrong : ChangeSpec := { name := "tableLooks", fn := fun _ => fun
  | [d1, d2, d3, d4] => { results := [.lit (.bool false)], args := [d1, d2, d3, d4] }
  | _ => none }
def TableLooksWrongFalsely : Prop := tableLooksRow.holds Try.pinned (OpenSpec.ofChange tableLooksWrong)

/-- 'wayfinderlaw09.TableOwn': WHATEVER THE INPUT: true; the input reads as it did. -/
def tableOwnSpec : ChangeSpec := { name := "tableOwn", fn := fun _ => fun
  | [d1, d2, d3] => { results := [.lit (.bool true)], args := [d1, d2, d3] }
  | _ => none }
def tableOwnRow : OpenClaim := { program := "ytkobhleoebgbhaa", sum := "cc7e6284c7887b2c4e4de254a7f4fc630a94537653d2a4b5bf2b06e5f3477830", func := "wayfinder/wayfinderlaw09.TableOwn", spec := "tableOwn", inPlace := ["slices.overlaps[wayfinder/api.Ver]"], unfollowed := true, recurses := true, apart := false }
def TableOwnSaid : Prop := tableOwnRow.holds Try.pinned (OpenSpec.ofChange tableOwnSpec)

/-- ITS FALSE NEIGHBOUR: 'it returns false'. Refute it at one input. -/
def tableOwnWrong : ChangeSpec := { name := "tableOwn", fn := fun _ => fun
  | [d1, d2, d3] => { results := [.lit (.bool false)], args := [d1, d2, d3] }
  | _ => none }
def TableOwnWrongFalsely : Prop := tableOwnRow.holds Try.pinned (OpenSpec.ofChange tableOwnWrong)

/-- 'wayfinderlaw09.TableTwice': WHATEVER THE INPUT: true; the input reads as it did. -/
def tableTwiceSpec : ChangeSpec := { name := "tableTwice", fn := fun _ => fun
  | [d1, d2, d3] => { results := [.lit (.bool true)], args := [d1, d2, d3] }
  | _ => none }
def tableTwiceRow : OpenClaim := { program := "ytkobhleoebgbhaa", sum := "cc7e6284c7887b2c4e4de254a7f4fc630a94537653d2a4b5bf2b06e5f3477830", func := "wayfinder/wayfinderlaw09.TableTwice", spec := "tableTwice", inPlace := ["slices.overlaps[wayfinder/api.Ver]"], unfollowed := true, recurses := true, apart := false }
def TableTwiceSaid : Prop := tableTwiceRow.holds Try.pinned (OpenSpec.ofChange tableTwiceSpec)

/-- ITS FALSE NEIGHBOUR: 'it returns false'. Refute it at one input. -/
def tableTwiceWrong : ChangeSpec := { name := "tableTwice", fn := fun _ => fun
  | [d1, d2, d3] => { results := [.lit (.bool false)], args := [d1, d2, d3] }
  | _ => none }
def TableTwiceWrongFalsely : Prop := tableTwiceRow.holds Try.pinned (OpenSpec.ofChange tableTwiceWrong)

/-- 'wayfinderlaw09.TableRises': WHATEVER THE INPUT: true; the input reads as it did. -/
def tableRisesSpec : ChangeSpec := { name := "tableRises", fn := fun _ => fun
  | [d1, d2, d3] => { results := [.lit (.bool true)], args := [d1, d2, d3] }
  | _ => none }
def tableRisesRow : OpenClaim := { program := "ytkobhleoebgbhaa", sum := "cc7e6284c7887b2c4e4de254a7f4fc630a94537653d2a4b5bf2b06e5f3477830", func := "wayfinder/wayfinderlaw09.TableRises", spec := "tableRises", inPlace := ["slices.overlaps[wayfinder/api.Ver]"], unfollowed := true, recurses := true, apart := false }
def TableRisesSaid : Prop := tableRisesRow.holds Try.pinned (OpenSpec.ofChange tableRisesSpec)

/-- ITS FALSE NEIGHBOUR: 'it returns false'. Refute it at one input. -/
def tableRisesWrong : ChangeSpec := { name := "tableRises", fn := fun _ => fun
  | [d1, d2, d3] => { results := [.lit (.bool false)], args := [d1, d2, d3] }
  | _ => none }
def TableRisesWrongFalsely : Prop := tableRisesRow.holds Try.pinned (OpenSpec.ofChange tableRisesWrong)

/-- 'wayfinderlaw09.TableTells': WHATEVER THE INPUT: true; the input reads as it did. -/
def tableTellsSpec : ChangeSpec := { name := "tableTells", fn := fun _ => fun
  | [d1, d2, d3, d4] => { results := [.lit (.bool true)], args := [d1, d2, d3, d4] }
  | _ => none }
def tableTellsRow : OpenClaim := { program := "ytkobhleoebgbhaa", sum := "cc7e6284c7887b2c4e4de254a7f4fc630a94537653d2a4b5bf2b06e5f3477830", func := "wayfinder/wayfinderlaw09.TableTells", spec := "tableTells", inPlace := ["slices.overlaps[wayfinder/api.Ver]"], unfollowed := true, recurses := true, apart := false }
def TableTellsSaid : Prop := tableTellsRow.holds Try.pinned (OpenSpec.ofChange tableTellsSpec)

/-- ITS FALSE NEIGHBOUR: 'it returns false'. Refute it at one input. -/
def tableTellsWrong : ChangeSpec := { name := "tableTells", fn := fun _ => fun
  | [d1, d2, d3, d4] => { results := [.lit (.bool false)], args := [d1, d2, d3, d4] }
  | _ => none }
def TableTellsWrongFalsely : Prop := tableTellsRow.holds Try.pinned (OpenSpec.ofChange tableTellsWrong)

/-- 'wayfinderlaw09.TableApart': WHATEVER THE INPUT: true; the input reads as it did. -/
def tableApartSpec : ChangeSpec := { name := "tableApart", fn := fun _ => fun
  | [d1, d2, d3, d4, d5, d6] => { results := [.lit (.bool true)], args := [d1, d2, d3, d4, d5, d6] }
  | _ => none }
def tableApartRow : OpenClaim := { program := "ytkobhleoebgbhaa", sum := "cc7e6284c7887b2c4e4de254a7f4fc630a94537653d2a4b5bf2b06e5f3477830", func := "wayfinder/wayfinderlaw09.TableApart", spec := "tableApart", inPlace := ["slices.overlaps[wayfinder/api.Ver]"], unfollowed := true, recurses := true, apart := false }
def TableApartSaid : Prop := tableApartRow.holds Try.pinned (OpenSpec.ofChange tableApartSpec)

/-- ITS FALSE NEIGHBOUR: 'it returns false'. Refute it at one input. -/
def tableApartWrong : ChangeSpec := { name := "tableApart", fn := fun _ => fun
  | [d1, d2, d3, d4, d5, d6] => { results := [.lit (.bool false)], args := [d1, d2, d3, d4, d5, d6] }
  | _ => none }
def TableApartWrongFalsely : Prop := tableApartRow.holds Try.pinned (OpenSpec.ofChange tableApartWrong)

/-- 'wayfinderlaw09.TableHas': WHATEVER THE INPUT: true; the input reads as it did. -/
def tableHasSpec : ChangeSpec := { name := "tableHas", fn := fun _ => fun
  | [d1, d2, d3, d4] => { results := [.lit (.bool true)], args := [d1, d2, d3, d4] }
  | _ => none }
def tableHasRow : OpenClaim := { program := "ytkobhleoebgbhaa", sum := "cc7e6284c7887b2c4e4de254a7f4fc630a94537653d2a4b5bf2b06e5f3477830", func := "wayfinder/wayfinderlaw09.TableHas", spec := "tableHas", inPlace := ["slices.overlaps[wayfinder/api.Ver]"], unfollowed := true, recurses := true, apart := false }
def TableHasSaid : Prop := tableHasRow.holds Try.pinned (OpenSpec.ofChange tableHasSpec)

/-- ITS FALSE NEIGHBOUR: 'it returns false'. Refute it at one input. -/
def tableHasWrong : ChangeSpec := { name := "tableHas", fn := fun _ => fun
  | [d1, d2, d3, d4] => { results := [.lit (.bool false)], args := [d1, d2, d3, d4] }
  | _ => none }
def TableHasWrongFalsely : Prop := tableHasRow.holds Try.pinned (OpenSpec.ofChange tableHasWrong)

/- THE SECOND FORM. 'bulk': how many values and letters a reading holds, each counted each time it is reached (what is shared counts as often as it is met; a slice's spare places count too). A statement '..UptoSaid' is the law's where the arguments, and the package variables that the reading takes, are together of bulk at most 1048576: NARROWER than '..Said'. Prove '..Said' where nothing that the law and all that it calls make is longer than what came in: it says more and counts as full. Else prove '..UptoSaid'. A law counts once. -/
mutual
def uptoBulk {H : Type} : DataW H → Nat
  | .lit (.string bytes) => bytes.length + 1
  | .lit _ => 1
  | .nil => 1
  | .ptr d => uptoBulk d + 1
  | .slice elems spare => uptoBulkAll elems + uptoBulkAll spare + 1
  | .agg parts => uptoBulkAll parts + 1
  | .iface _ d => uptoBulk d + 1
  | .map entries => uptoBulkEntries entries + 1
  | .held _ => 1
def uptoBulkAll {H : Type} : List (DataW H) → Nat
  | [] => 0
  | d :: r => uptoBulk d + uptoBulkAll r
def uptoBulkEntries {H : Type} : List (Lit × DataW H) → Nat
  | [] => 0
  | x :: r => uptoBulkEntry x + uptoBulkEntries r
def uptoBulkEntry {H : Type} : Lit × DataW H → Nat
  | (.string bytes, d) => bytes.length + uptoBulk d + 1
  | (_, d) => uptoBulk d + 1
 end
def uptoSmall : (H : Type) → List (DataW H) → Bool := fun _ ds => decide (uptoBulkAll ds ≤ 1048576)
def OpenSpec.upto (s : _root_.Go.ChangeSpec) : _root_.Go.OpenSpec := { _root_.Go.OpenSpec.ofChange s with cond := some uptoSmall }

/-- 'wayfinderlaw15.SessOnce', WHERE WHAT IT READS IS OF BULK AT MOST 1048576: true; the input reads as it did. -/
def sessOnceUptoRow : OpenClaim := { program := "ytkobhleoebgbhaa", sum := "cc7e6284c7887b2c4e4de254a7f4fc630a94537653d2a4b5bf2b06e5f3477830", func := "wayfinder/wayfinderlaw15.SessOnce", spec := "sessOnce", unfollowed := true, recurses := true, apart := false, narrowed := true }
def SessOnceUptoSaid : Prop := sessOnceUptoRow.holds Try.pinned (OpenSpec.upto sessOnceSpec)

/-- 'wayfinderlaw20.PlanCounts', WHERE WHAT IT READS IS OF BULK AT MOST 1048576: true; the input reads as it did. -/
def planCountsUptoRow : OpenClaim := { program := "ytkobhleoebgbhaa", sum := "cc7e6284c7887b2c4e4de254a7f4fc630a94537653d2a4b5bf2b06e5f3477830", func := "wayfinder/wayfinderlaw20.PlanCounts", spec := "planCounts", unfollowed := true, recurses := true, apart := false, narrowed := true }
def PlanCountsUptoSaid : Prop := planCountsUptoRow.holds Try.pinned (OpenSpec.upto planCountsSpec)

/-- 'wayfinderlaw09.TableLooks', WHERE WHAT IT READS IS OF BULK AT MOST 1048576: true; the input reads as it did. -/
def tableLooksUptoRow : OpenClaim := { program := "ytkobhleoebgbhaa", sum := "cc7e6284c7887b2c4e4de254a7f4fc630a94537653d2a4b5bf2b06e5f3477830", func := "wayfinder/wayfinderlaw09.TableLooks", spec := "tableLooks", inPlace := ["slices.overlaps[wayfinder/api.Ver]"], unfollowed := true, recurses := true, apart := false, narrowed := true }
def TableLooksUptoSaid : Prop := tableLooksUptoRow.holds Try.pinned (OpenSpec.upto tableLooksSpec)

/-- 'wayfinderlaw09.TableOwn', WHERE WHAT IT READS IS OF BULK AT MOST 1048576: true; the input reads as it did. -/
def tableOwnUptoRow : OpenClaim := { program := "ytkobhleoebgbhaa", sum := "cc7e6284c7887b2c4e4de254a7f4fc630a94537653d2a4b5bf2b06e5f3477830", func := "wayfinder/wayfinderlaw09.TableOwn", spec := "tableOwn", inPlace := ["slices.overlaps[wayfinder/api.Ver]"], unfollowed := true, recurses := true, apart := false, narrowed := true }
def TableOwnUptoSaid : Prop := tableOwnUptoRow.holds Try.pinned (OpenSpec.upto tableOwnSpec)

/-- 'wayfinderlaw09.TableTwice', WHERE WHAT IT READS IS OF BULK AT MOST 1048576: true; the input reads as it did. -/
def tableTwiceUptoRow : OpenClaim := { program := "ytkobhleoebgbhaa", sum := "cc7e6284c7887b2c4e4de254a7f4fc630a94537653d2a4b5bf2b06e5f3477830", func := "wayfinder/wayfinderlaw09.TableTwice", spec := "tableTwice", inPlace := ["slices.overlaps[wayfinder/api.Ver]"], unfollowed := true, recurses := true, apart := false, narrowed := true }
def TableTwiceUptoSaid : Prop := tableTwiceUptoRow.holds Try.pinned (OpenSpec.upto tableTwiceSpec)

/-- 'wayfinderlaw09.TableRises', WHERE WHAT IT READS IS OF BULK AT MOST 1048576: true; the input reads as it did. -/
def tableRisesUptoRow : OpenClaim := { program := "ytkobhleoebgbhaa", sum := "cc7e6284c7887b2c4e4de254a7f4fc630a94537653d2a4b5bf2b06e5f3477830", func := "wayfinder/wayfinderlaw09.TableRises", spec := "tableRises", inPlace := ["slices.overlaps[wayfinder/api.Ver]"], unfollowed := true, recurses := true, apart := false, narrowed := true }
def TableRisesUptoSaid : Prop := tableRisesUptoRow.holds Try.pinned (OpenSpec.upto tableRisesSpec)

/-- 'wayfinderlaw09.TableTells', WHERE WHAT IT READS IS OF BULK AT MOST 1048576: true; the input reads as it did. -/
def tableTellsUptoRow : OpenClaim := { program := "ytkobhleoebgbhaa", sum := "cc7e6284c7887b2c4e4de254a7f4fc630a94537653d2a4b5bf2b06e5f3477830", func := "wayfinder/wayfinderlaw09.TableTells", spec := "tableTells", inPlace := ["slices.overlaps[wayfinder/api.Ver]"], unfollowed := true, recurses := true, apart := false, narrowed := true }
def TableTellsUptoSaid : Prop := tableTellsUptoRow.holds Try.pinned (OpenSpec.upto tableTellsSpec)

/-- 'wayfinderlaw09.TableApart', WHERE WHAT IT READS IS OF BULK AT MOST 1048576: true; the input reads as it did. -/
def tableApartUptoRow : OpenClaim := { program := "ytkobhleoebgbhaa", sum := "cc7e6284c7887b2c4e4de254a7f4fc630a94537653d2a4b5bf2b06e5f3477830", func := "wayfinder/wayfinderlaw09.TableApart", spec := "tableApart", inPlace := ["slices.overlaps[wayfinder/api.Ver]"], unfollowed := true, recurses := true, apart := false, narrowed := true }
def TableApartUptoSaid : Prop := tableApartUptoRow.holds Try.pinned (OpenSpec.upto tableApartSpec)

/-- 'wayfinderlaw09.TableHas', WHERE WHAT IT READS IS OF BULK AT MOST 1048576: true; the input reads as it did. -/
def tableHasUptoRow : OpenClaim := { program := "ytkobhleoebgbhaa", sum := "cc7e6284c7887b2c4e4de254a7f4fc630a94537653d2a4b5bf2b06e5f3477830", func := "wayfinder/wayfinderlaw09.TableHas", spec := "tableHas", inPlace := ["slices.overlaps[wayfinder/api.Ver]"], unfollowed := true, recurses := true, apart := false, narrowed := true }
def TableHasUptoSaid : Prop := tableHasUptoRow.holds Try.pinned (OpenSpec.upto tableHasSpec)

end Rows
end Go.Proofs.Ytkobhleoebgbhaa
