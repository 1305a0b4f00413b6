/-
  No cell of these rows narrows 'for every input' (looked for: loops, veiled, ifaces, maps, wideKeys, modest, calm, conditions, laid).
  DERIVED. THE GIVEN ROWS OF THIS SEAT. 9 by the template 'for every input the law returns true; each argument reads behind the call as it read before'; 0 by the template 'total and deterministic' (their statements: YtibkmiffibacbaaTotals.lean).
  GIVEN WITH THE SEED: the statements are not yours to turn. If you find one false, say at which input.
  Laid BY PROGRAM, IN A SANDBOX (cutbox-rows.mjs): the forced cells as the released guide's own fill.sh prints them over the translation 5909647c113cf6cb… (all of the seat's roots in one cut). By AI agents, Wed Nov 11 2026. No macro, syntax, notation, axiom, sorry.
-/
import Derived.Test.YtibkmiffibacbaaChecked
import GoSem.Claim
import GoSem.ClaimJoined
import GoSem.ClaimMapViews
import Derived.JoinedTies
import Derived.KernelRfl
namespace Go.Proofs.Ytibkmiffibacbaa
/- THE CELL 'sum', in the pinned program and in every row, IS THE sha256 OF THE DUMP (.gsa) THAT YtibkmiffibacbaaProg.lean LOADS. Nothing in Lean hashes anything: it is a label: what it is worth is what the hold of that sum in a sandbox is worth. -/
noncomputable def Try.pinned : Pinned := { name := "ytibkmiffibacbaa", sum := "5909647c113cf6cbdcc043891c335f67cf34a2eb8f07e384e811e59a7d2c082a", checked := Try.checked }
namespace Rows
def none {H : Type} : Left H := { results := [], args := [] }

/-- 'wayfinderlaw20.PlanEnds': WHATEVER THE INPUT: true; the input reads as it did. -/
def planEndsSpec : ChangeSpec := { name := "planEnds", fn := fun _ => fun
  | [d1, d2] => { results := [.lit (.bool true)], args := [d1, d2] }
  | _ => none }
def planEndsRow : OpenClaim := { program := "ytibkmiffibacbaa", sum := "5909647c113cf6cbdcc043891c335f67cf34a2eb8f07e384e811e59a7d2c082a", func := "wayfinder/wayfinderlaw20.PlanEnds", spec := "planEnds", unfollowed := true, recurses := true, apart := false }
def PlanEndsSaid : Prop := planEndsRow.holds Try.pinned (OpenSpec.ofChange planEndsSpec)

/-- ITS FALSE NEIGHBOUR: 'it returns false'. Refute it at one input. -/
def planEndsWrong : ChangeSpec := { name := "planEnds", fn := fun _ => fun
  | [d1, d2] => { results := [.lit (.bool false)], args := [d1, d2] }
  | _ => none }
def PlanEndsWrongFalsely : Prop := planEndsRow.holds Try.pinned (OpenSpec.ofChange planEndsWrong)

/-- 'wayfinderlaw15.SessOnce': WHATEVER THE INPUT: true; the input reads as it did. -/
def sessOnceSpec : ChangeSpec := { name := "sessOnce", fn := fun _ => fun
  | [d] => { results := [.lit (.bool true)], args := [d] }
  | _ => none }
def sessOnceRow : OpenClaim := { program := "ytibkmiffibacbaa", sum := "5909647c113cf6cbdcc043891c335f67cf34a2eb8f07e384e811e59a7d2c082a", func := "wayfinder/wayfinderlaw15.SessOnce", spec := "sessOnce", unfollowed := true, recurses := true, apart := false }
def SessOnceSaid : Prop := sessOnceRow.holds Try.pinned (OpenSpec.ofChange sessOnceSpec)

/-- ITS FALSE NEIGHBOUR: 'it returns false'. Refute it at one input. -/
def sessOnceWrong : ChangeSpec := { name := "sessOnce", fn := fun _ => fun
  | [d] => { results := [.lit (.bool false)], args := [d] }
  | _ => none }
def SessOnceWrongFalsely : Prop := sessOnceRow.holds Try.pinned (OpenSpec.ofChange sessOnceWrong)

/-- 'wayfinderlaw15.SessDone': WHATEVER THE INPUT: true; the input reads as it did. -/
def sessDoneSpec : ChangeSpec := { name := "sessDone", fn := fun _ => fun
  | [d1, d2, d3, d4] => { results := [.lit (.bool true)], args := [d1, d2, d3, d4] }
  | _ => none }
def sessDoneRow : OpenClaim := { program := "ytibkmiffibacbaa", sum := "5909647c113cf6cbdcc043891c335f67cf34a2eb8f07e384e811e59a7d2c082a", func := "wayfinder/wayfinderlaw15.SessDone", spec := "sessDone", unfollowed := true, recurses := true, apart := false }
def SessDoneSaid : Prop := sessDoneRow.holds Try.pinned (OpenSpec.ofChange sessDoneSpec)

/-- ITS FALSE NEIGHBOUR: 'it returns false'. Refute it at one input. -/
def sessDoneWrong : ChangeSpec := { name := "sessDone", fn := fun _ => fun
  | [d1, d2, d3, d4] => { results := [.lit (.bool false)], args := [d1, d2, d3, d4] }
  | _ => none }
def SessDoneWrongFalsely : Prop := sessDoneRow.holds Try.pinned (OpenSpec.ofChange sessDoneWrong)

/-- 'wayfinderlaw15.SessTells': WHATEVER THE INPUT: true; the input reads as it did. -/
def sessTellsSpec : ChangeSpec := { name := "sessTells", fn := fun _ => fun
  | [d1, d2, d3, d4, d5] => { results := [.lit (.bool true)], args := [d1, d2, d3, d4, d5] }
  | _ => none }
def sessTellsRow : OpenClaim := { program := "ytibkmiffibacbaa", sum := "5909647c113cf6cbdcc043891c335f67cf34a2eb8f07e384e811e59a7d2c082a", func := "wayfinder/wayfinderlaw15.SessTells", spec := "sessTells", unfollowed := true, recurses := true, apart := false }
def SessTellsSaid : Prop := sessTellsRow.holds Try.pinned (OpenSpec.ofChange sessTellsSpec)

/-- ITS FALSE NEIGHBOUR: 'it returns false'. Refute it at one input. -/
def sessTellsWrong : ChangeSpec := { name := "sessTells", fn := fun _ => fun
  | [d1, d2, d3, d4, d5] => { results := [.lit (.bool false)], args := [d1, d2, d3, d4, d5] }
  | _ => none }
def SessTellsWrongFalsely : Prop := sessTellsRow.holds Try.pinned (OpenSpec.ofChange sessTellsWrong)

/-- 'wayfinderlaw15.SessGoes': WHATEVER THE INPUT: true; the input reads as it did. -/
def sessGoesSpec : ChangeSpec := { name := "sessGoes", fn := fun _ => fun
  | [d] => { results := [.lit (.bool true)], args := [d] }
  | _ => none }
def sessGoesRow : OpenClaim := { program := "ytibkmiffibacbaa", sum := "5909647c113cf6cbdcc043891c335f67cf34a2eb8f07e384e811e59a7d2c082a", func := "wayfinder/wayfinderlaw15.SessGoes", spec := "sessGoes", unfollowed := true, recurses := true, apart := false }
def SessGoesSaid : Prop := sessGoesRow.holds Try.pinned (OpenSpec.ofChange sessGoesSpec)

/-- ITS FALSE NEIGHBOUR: 'it returns false'. Refute it at one input. -/
def sessGoesWrong : ChangeSpec := { name := "sessGoes", fn := fun _ => fun
  | [d] => { results := [.lit (.bool false)], args := [d] }
  | _ => none }
def SessGoesWrongFalsely : Prop := sessGoesRow.holds Try.pinned (OpenSpec.ofChange sessGoesWrong)

/-- 'wayfinderlaw15.SessFirst': WHATEVER THE INPUT: true; the input reads as it did. -/
def sessFirstSpec : ChangeSpec := { name := "sessFirst", fn := fun _ => fun
  | [d1, d2, d3] => { results := [.lit (.bool true)], args := [d1, d2, d3] }
  | _ => none }
def sessFirstRow : OpenClaim := { program := "ytibkmiffibacbaa", sum := "5909647c113cf6cbdcc043891c335f67cf34a2eb8f07e384e811e59a7d2c082a", func := "wayfinder/wayfinderlaw15.SessFirst", spec := "sessFirst", unfollowed := true, recurses := true, apart := false }
def SessFirstSaid : Prop := sessFirstRow.holds Try.pinned (OpenSpec.ofChange sessFirstSpec)

/-- ITS FALSE NEIGHBOUR: 'it returns false'. Refute it at one input. -/
def sessFirstWrong : ChangeSpec := { name := "sessFirst", fn := fun _ => fun
  | [d1, d2, d3] => { results := [.lit (.bool false)], args := [d1, d2, d3] }
  | _ => none }
def SessFirstWrongFalsely : Prop := sessFirstRow.holds Try.pinned (OpenSpec.ofChange sessFirstWrong)

/-- 'wayfinderlaw20.PlanTells': WHATEVER THE INPUT: true; the input reads as it did. -/
def planTellsSpec : ChangeSpec := { name := "planTells", fn := fun _ => fun
  | [d1, d2, d3] => { results := [.lit (.bool true)], args := [d1, d2, d3] }
  | _ => none }
def planTellsRow : OpenClaim := { program := "ytibkmiffibacbaa", sum := "5909647c113cf6cbdcc043891c335f67cf34a2eb8f07e384e811e59a7d2c082a", func := "wayfinder/wayfinderlaw20.PlanTells", spec := "planTells", unfollowed := true, recurses := true, apart := false }
def PlanTellsSaid : Prop := planTellsRow.holds Try.pinned (OpenSpec.ofChange planTellsSpec)

/-- ITS FALSE NEIGHBOUR: 'it returns false'. Refute it at one input. -/
def planTellsWrong : ChangeSpec := { name := "planTells", fn := fun _ => fun
  | [d1, d2, d3] => { results := [.lit (.bool false)], args := [d1, d2, d3] }
  | _ => none }
def PlanTellsWrongFalsely : Prop := planTellsRow.holds Try.pinned (OpenSpec.ofChange planTellsWrong)

/-- 'wayfinderlaw20.PlanCounts': WHATEVER THE INPUT: true; the input reads as it did. -/
def planCountsSpec : ChangeSpec := { name := "planCounts", fn := fun _ => fun
  | [d1, d2, d3] => { results := [.lit (.bool true)], args := [d1, d2, d3] }
  | _ => none }
def planCountsRow : OpenClaim := { program := "ytibkmiffibacbaa", sum := "5909647c113cf6cbdcc043891c335f67cf34a2eb8f07e384e811e59a7d2c082a", func := "wayfinder/wayfinderlaw20.PlanCounts", spec := "planCounts", unfollowed := true, recurses := true, apart := false }
def PlanCountsSaid : Prop := planCountsRow.holds Try.pinned (OpenSpec.ofChange planCountsSpec)

/-- ITS FALSE NEIGHBOUR: 'it returns false'. Refute it at one input. -/
def planCountsWrong : ChangeSpec := { name := "planCounts", fn := fun _ => fun
  | [d1, d2, d3] => { results := [.lit (.bool false)], args := [d1, d2, d3] }
  | _ => none }
def PlanCountsWrongFalsely : Prop := planCountsRow.holds Try.pinned (OpenSpec.ofChange planCountsWrong)

/-- 'wayfinderlaw20.PlanParts': WHATEVER THE INPUT: true; the input reads as it did. -/
def planPartsSpec : ChangeSpec := { name := "planParts", fn := fun _ => fun
  | [d1, d2, d3] => { results := [.lit (.bool true)], args := [d1, d2, d3] }
  | _ => none }
def planPartsRow : OpenClaim := { program := "ytibkmiffibacbaa", sum := "5909647c113cf6cbdcc043891c335f67cf34a2eb8f07e384e811e59a7d2c082a", func := "wayfinder/wayfinderlaw20.PlanParts", spec := "planParts", unfollowed := true, recurses := true, apart := false }
def PlanPartsSaid : Prop := planPartsRow.holds Try.pinned (OpenSpec.ofChange planPartsSpec)

/-- ITS FALSE NEIGHBOUR: 'it returns false'. Refute it at one input. -/
def planPartsWrong : ChangeSpec := { name := "planParts", fn := fun _ => fun
  | [d1, d2, d3] => { results := [.lit (.bool false)], args := [d1, d2, d3] }
  | _ => none }
def PlanPartsWrongFalsely : Prop := planPartsRow.holds Try.pinned (OpenSpec.ofChange planPartsWrong)

/- THE SECOND FORM. 'bulk': how many values and letters a reading holds, each counted each time it is reached (what is shared counts as often as it is met; a slice's spare places count too). A statement '..UptoSaid' is the law's where the arguments, and the package variables that the reading takes, are together of bulk at most 1048576: NARROWER than '..Said'. Prove '..Said' where nothing that the law and all that it calls make is longer than what came in: it says more and counts as full. Else prove '..UptoSaid'. A law counts once. -/
mutual
def uptoBulk {H : Type} : DataW H → Nat
  | .lit (.string bytes) => bytes.length + 1
  | .lit _ => 1
  | .nil => 1
  | .ptr d => uptoBulk d + 1
  | .slice elems spare => uptoBulkAll elems + uptoBulkAll spare + 1
  | .agg parts => uptoBulkAll parts + 1
  | .iface _ d => uptoBulk d + 1
  | .map entries => uptoBulkEntries entries + 1
  | .held _ => 1
def uptoBulkAll {H : Type} : List (DataW H) → Nat
  | [] => 0
  | d :: r => uptoBulk d + uptoBulkAll r
def uptoBulkEntries {H : Type} : List (Lit × DataW H) → Nat
  | [] => 0
  | x :: r => uptoBulkEntry x + uptoBulkEntries r
def uptoBulkEntry {H : Type} : Lit × DataW H → Nat
  | (.string bytes, d) => bytes.length + uptoBulk d + 1
  | (_, d) => uptoBulk d + 1
 end
def uptoSmall : (H : Type) → List (DataW H) → Bool := fun _ ds => decide (uptoBulkAll ds ≤ 1048576)
def OpenSpec.upto (s : _root_.Go.ChangeSpec) : _root_.Go.OpenSpec := { _root_.Go.OpenSpec.ofChange s with cond := some uptoSmall }

/-- 'wayfinderlaw20.PlanEnds', WHERE WHAT IT READS IS OF BULK AT MOST 1048576: true; the input reads as it did. -/
def planEndsUptoRow : OpenClaim := { program := "ytibkmiffibacbaa", sum := "5909647c113cf6cbdcc043891c335f67cf34a2eb8f07e384e811e59a7d2c082a", func := "wayfinder/wayfinderlaw20.PlanEnds", spec := "planEnds", unfollowed := true, recurses := true, apart := false, narrowed := true }
def PlanEndsUptoSaid : Prop := planEndsUptoRow.holds Try.pinned (OpenSpec.upto planEndsSpec)

/-- 'wayfinderlaw15.SessOnce', WHERE WHAT IT READS IS OF BULK AT MOST 1048576: true; the input reads as it did. -/
def sessOnceUptoRow : OpenClaim := { program := "ytibkmiffibacbaa", sum := "5909647c113cf6cbdcc043891c335f67cf34a2eb8f07e384e811e59a7d2c082a", func := "wayfinder/wayfinderlaw15.SessOnce", spec := "sessOnce", unfollowed := true, recurses := true, apart := false, narrowed := true }
def SessOnceUptoSaid : Prop := sessOnceUptoRow.holds Try.pinned (OpenSpec.upto sessOnceSpec)

/-- 'wayfinderlaw15.SessDone', WHERE WHAT IT READS IS OF BULK AT MOST 1048576: true; the input reads as it did. -/
def sessDoneUptoRow : OpenClaim := { program := "ytibkmiffibacbaa", sum := "5909647c113cf6cbdcc043891c335f67cf34a2eb8f07e384e811e59a7d2c082a", func := "wayfinder/wayfinderlaw15.SessDone", spec := "sessDone", unfollowed := true, recurses := true, apart := false, narrowed := true }
def SessDoneUptoSaid : Prop := sessDoneUptoRow.holds Try.pinned (OpenSpec.upto sessDoneSpec)

/-- 'wayfinderlaw15.SessTells', WHERE WHAT IT READS IS OF BULK AT MOST 1048576: true; the input reads as it did. -/
def sessTellsUptoRow : OpenClaim := { program := "ytibkmiffibacbaa", sum := "5909647c113cf6cbdcc043891c335f67cf34a2eb8f07e384e811e59a7d2c082a", func := "wayfinder/wayfinderlaw15.SessTells", spec := "sessTells", unfollowed := true, recurses := true, apart := false, narrowed := true }
def SessTellsUptoSaid : Prop := sessTellsUptoRow.holds Try.pinned (OpenSpec.upto sessTellsSpec)

/-- 'wayfinderlaw15.SessGoes', WHERE WHAT IT READS IS OF BULK AT MOST 1048576: true; the input reads as it did. -/
def sessGoesUptoRow : OpenClaim := { program := "ytibkmiffibacbaa", sum := "5909647c113cf6cbdcc043891c335f67cf34a2eb8f07e384e811e59a7d2c082a", func := "wayfinder/wayfinderlaw15.SessGoes", spec := "sessGoes", unfollowed := true, recurses := true, apart := false, narrowed := true }
def SessGoesUptoSaid : Prop := sessGoesUptoRow.holds Try.pinned (OpenSpec.upto sessGoesSpec)

/-- 'wayfinderlaw15.SessFirst', WHERE WHAT IT READS IS OF BULK AT MOST 1048576: true; the input reads as it did. -/
def sessFirstUptoRow : OpenClaim := { program := "ytibkmiffibacbaa", sum := "5909647c113cf6cbdcc043891c335f67cf34a2eb8f07e384e811e59a7d2c082a", func := "wayfinder/wayfinderlaw15.SessFirst", spec := "sessFirst", unfollowed := true, recurses := true, apart := false, narrowed := true }
def SessFirstUptoSaid : Prop := sessFirstUptoRow.holds Try.pinned (OpenSpec.upto sessFirstSpec)

/-- 'wayfinderlaw20.PlanTells', WHERE WHAT IT READS IS OF BULK AT MOST 1048576: true; the input reads as it did. -/
def planTellsUptoRow : OpenClaim := { program := "ytibkmiffibacbaa", sum := "5909647c113cf6cbdcc043891c335f67cf34a2eb8f07e384e811e59a7d2c082a", func := "wayfinder/wayfinderlaw20.PlanTells", spec := "planTells", unfollowed := true, recurses := true, apart := false, narrowed := true }
def PlanTellsUptoSaid : Prop := planTellsUptoRow.holds Try.pinned (OpenSpec.upto planTellsSpec)

/-- 'wayfinderlaw20.PlanCounts', WHERE WHAT IT READS IS OF BULK AT MOST 1048576: true; the input reads as it did. -/
def planCountsUptoRow : OpenClaim := { program := "ytibkmiffibacbaa", sum := "5909647c113cf6cbdcc043891c335f67cf34a2eb8f07e384e811e59a7d2c082a", func := "wayfinder/wayfinderlaw20.PlanCounts", spec := "planCounts", unfollowed := true, recurses := true, apart := false, narrowed := true }
def PlanCountsUptoSaid : Prop := planCountsUptoRow.holds Try.pinned (OpenSpec.upto planCountsSpec)

/-- 'wayfinderlaw20.PlanParts', WHERE WHAT IT READS IS OF BULK AT MOST 1048576: true; the input reads as it did. -/
def planPartsUptoRow : OpenClaim := { program := "ytibkmiffibacbaa", sum := "5909647c113cf6cbdcc043891c335f67cf34a2eb8f07e384e811e59a7d2c082a", func := "wayfinder/wayfinderlaw20.PlanParts", spec := "planParts", unfollowed := true, recurses := true, apart := false, narrowed := true }
def PlanPartsUptoSaid : Prop := planPartsUptoRow.holds Try.pinned (OpenSpec.upto planPartsSpec)

end Rows
end Go.Proofs.Ytibkmiffibacbaa
