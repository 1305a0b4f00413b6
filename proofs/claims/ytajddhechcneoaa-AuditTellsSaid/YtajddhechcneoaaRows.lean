/-
  No cell of these rows narrows 'for every input' (looked for: loops, veiled, ifaces, maps, wideKeys, modest, calm, conditions, laid).
  DERIVED. THE GIVEN ROWS OF THIS SEAT. 5 by the template 'for every input the law returns true; each argument reads behind the call as it read before'; 0 by the template 'total and deterministic' (their statements: YtajddhechcneoaaTotals.lean).
  GIVEN WITH THE SEED: the statements are not yours to turn. If you find one false, say at which input.
  Laid BY PROGRAM, IN A SANDBOX (cutbox-rows.mjs): the forced cells as the released guide's own fill.sh prints them over the translation 0d59476062fd0edd… (all of the seat's roots in one cut). By AI agents, Wed Nov 11 2026. No macro, syntax, notation, axiom, sorry.
-/
import Derived.Test.YtajddhechcneoaaChecked
import GoSem.Claim
import GoSem.ClaimJoined
import GoSem.ClaimMapViews
import Derived.JoinedTies
import Derived.KernelRfl
namespace Go.Proofs.Ytajddhechcneoaa
/- THE CELL 'sum', in the pinned program and in every row, IS THE sha256 OF THE DUMP (.gsa) THAT YtajddhechcneoaaProg.lean LOADS. Nothing in Lean hashes anything: it is a label: what it is worth is what the hold of that sum in a sandbox is worth. -/
noncomputable def Try.pinned : Pinned := { name := "ytajddhechcneoaa", sum := "0d59476062fd0edd0f4c7a14e56a9cc9723c56ae33431d199fbf0d3cfebcba8c", checked := Try.checked }
namespace Rows
def none {H : Type} : Left H := { results := [], args := [] }

/-- 'wayfinderlaw23.AuditTells': WHATEVER THE INPUT: true; the input reads as it did. -/
def auditTellsSpec : ChangeSpec := { name := "auditTells", fn := fun _ => fun
  | [d1, d2, d3, d4, d5] => { results := [.lit (.bool true)], args := [d1, d2, d3, d4, d5] }
  | _ => none }
def auditTellsRow : OpenClaim := { program := "ytajddhechcneoaa", sum := "0d59476062fd0edd0f4c7a14e56a9cc9723c56ae33431d199fbf0d3cfebcba8c", func := "wayfinder/wayfinderlaw23.AuditTells", spec := "auditTells", unfollowed := true, recurses := true, plainKeys := false, apart := false }
def AuditTellsSaid : Prop := auditTellsRow.holds Try.pinned (OpenSpec.ofChange auditTellsSpec)

/-- ITS FALSE NEIGHBOUR: 'it returns false'. Refute it at one input. -/
def auditTellsWrong : ChangeSpec := { name := "auditTells", fn := fun _ => fun
  | [d1, d2, d3, d4, d5] => { results := [.lit (.bool false)], args := [d1, d2, d3, d4, d5] }
  | _ => none }
def AuditTellsWrongFalsely : Prop := auditTellsRow.holds Try.pinned (OpenSpec.ofChange auditTellsWrong)

/-- 'wayfinderlaw23.AuditWalks': WHATEVER THE INPUT: true; the input reads as it did. -/
def auditWalksSpec : ChangeSpec := { name := "auditWalks", fn := fun _ => fun
  | [d1, d2, d3, d4] => { results := [.lit (.bool true)], args := [d1, d2, d3, d4] }
  | _ => none }
def auditWalksRow : OpenClaim := { program := "ytajddhechcneoaa", sum := "0d59476062fd0edd0f4c7a14e56a9cc9723c56ae33431d199fbf0d3cfebcba8c", func := "wayfinder/wayfinderlaw23.AuditWalks", spec := "auditWalks", unfollowed := true, recurses := true, plainKeys := false, apart := false }
def AuditWalksSaid : Prop := auditWalksRow.holds Try.pinned (OpenSpec.ofChange auditWalksSpec)

/-- ITS FALSE NEIGHBOUR: 'it returns false'. Refute it at one input. -/
def auditWalksWrong : ChangeSpec := { name := "auditWalks", fn := fun _ => fun
  | [d1, d2, d3, d4] => { results := [.lit (.bool false)], args := [d1, d2, d3, d4] }
  | _ => none }
def AuditWalksWrongFalsely : Prop := auditWalksRow.holds Try.pinned (OpenSpec.ofChange auditWalksWrong)

/-- 'wayfinderlaw23.AuditParts': WHATEVER THE INPUT: true; the input reads as it did. -/
def auditPartsSpec : ChangeSpec := { name := "auditParts", fn := fun _ => fun
  | [d1, d2] => { results := [.lit (.bool true)], args := [d1, d2] }
  | _ => none }
def auditPartsRow : OpenClaim := { program := "ytajddhechcneoaa", sum := "0d59476062fd0edd0f4c7a14e56a9cc9723c56ae33431d199fbf0d3cfebcba8c", func := "wayfinder/wayfinderlaw23.AuditParts", spec := "auditParts", unfollowed := true, recurses := true, plainKeys := false, apart := false }
def AuditPartsSaid : Prop := auditPartsRow.holds Try.pinned (OpenSpec.ofChange auditPartsSpec)

/-- ITS FALSE NEIGHBOUR: 'it returns false'. Refute it at one input. -/
def auditPartsWrong : ChangeSpec := { name := "auditParts", fn := fun _ => fun
  | [d1, d2] => { results := [.lit (.bool false)], args := [d1, d2] }
  | _ => none }
def AuditPartsWrongFalsely : Prop := auditPartsRow.holds Try.pinned (OpenSpec.ofChange auditPartsWrong)

/-- 'wayfinderlaw23.AuditBegins': WHATEVER THE INPUT: true; the input reads as it did. -/
def auditBeginsSpec : ChangeSpec := { name := "auditBegins", fn := fun _ => fun
  | [d1, d2, d3, d4, d5] => { results := [.lit (.bool true)], args := [d1, d2, d3, d4, d5] }
  | _ => none }
def auditBeginsRow : OpenClaim := { program := "ytajddhechcneoaa", sum := "0d59476062fd0edd0f4c7a14e56a9cc9723c56ae33431d199fbf0d3cfebcba8c", func := "wayfinder/wayfinderlaw23.AuditBegins", spec := "auditBegins", unfollowed := true, recurses := true, plainKeys := false, apart := false }
def AuditBeginsSaid : Prop := auditBeginsRow.holds Try.pinned (OpenSpec.ofChange auditBeginsSpec)

/-- ITS FALSE NEIGHBOUR: 'it returns false'. Refute it at one input. -/
def auditBeginsWrong : ChangeSpec := { name := "auditBegins", fn := fun _ => fun
  | [d1, d2, d3, d4, d5] => { results := [.lit (.bool false)], args := [d1, d2, d3, d4, d5] }
  | _ => none }
def AuditBeginsWrongFalsely : Prop := auditBeginsRow.holds Try.pinned (OpenSpec.ofChange auditBeginsWrong)

/-- 'wayfinderlaw23.AuditTags': WHATEVER THE INPUT: true; the input reads as it did. -/
def auditTagsSpec : ChangeSpec := { name := "auditTags", fn := fun _ => fun
  | [d1, d2, d3, d4] => { results := [.lit (.bool true)], args := [d1, d2, d3, d4] }
  | _ => none }
def auditTagsRow : OpenClaim := { program := "ytajddhechcneoaa", sum := "0d59476062fd0edd0f4c7a14e56a9cc9723c56ae33431d199fbf0d3cfebcba8c", func := "wayfinder/wayfinderlaw23.AuditTags", spec := "auditTags", unfollowed := true, recurses := true, plainKeys := false, apart := false }
def AuditTagsSaid : Prop := auditTagsRow.holds Try.pinned (OpenSpec.ofChange auditTagsSpec)

/-- ITS FALSE NEIGHBOUR: 'it returns false'. Refute it at one input. -/
def auditTagsWrong : ChangeSpec := { name := "auditTags", fn := fun _ => fun
  | [d1, d2, d3, d4] => { results := [.lit (.bool false)], args := [d1, d2, d3, d4] }
  | _ => none }
def AuditTagsWrongFalsely : Prop := auditTagsRow.holds Try.pinned (OpenSpec.ofChange auditTagsWrong)

/- THE SECOND FORM. 'bulk': how many values and letters a reading holds, each counted each time it is reached (what is shared counts as often as it is met; a slice's spare places count too). A statement '..UptoSaid' is the law's where the arguments, and the package variables that the reading takes, are together of bulk at most 1048576: NARROWER than '..Said'. Prove '..Said' where nothing that the law and all that it calls make is longer than what came in: it says more and counts as full. Else prove '..UptoSaid'. A law counts once. -/
mutual
def uptoBulk {H : Type} : DataW H → Nat
  | .lit (.string bytes) => bytes.length + 1
  | .lit _ => 1
  | .nil => 1
  | .ptr d => uptoBulk d + 1
  | .slice elems spare => uptoBulkAll elems + uptoBulkAll spare + 1
  | .agg parts => uptoBulkAll parts + 1
  | .iface _ d => uptoBulk d + 1
  | .map entries => uptoBulkEntries entries + 1
  | .held _ => 1
def uptoBulkAll {H : Type} : List (DataW H) → Nat
  | [] => 0
  | d :: r => uptoBulk d + uptoBulkAll r
def uptoBulkEntries {H : Type} : List (Lit × DataW H) → Nat
  | [] => 0
  | x :: r => uptoBulkEntry x + uptoBulkEntries r
def uptoBulkEntry {H : Type} : Lit × DataW H → Nat
  | (.string bytes, d) => bytes.length + uptoBulk d + 1
  | (_, d) => uptoBulk d + 1
 end
def uptoSmall : (H : Type) → List (DataW H) → Bool := fun _ ds => decide (uptoBulkAll ds ≤ 1048576)
def OpenSpec.upto (s : _root_.Go.ChangeSpec) : _root_.Go.OpenSpec := { _root_.Go.OpenSpec.ofChange s with cond := some uptoSmall }

/-- 'wayfinderlaw23.AuditTells', WHERE WHAT IT READS IS OF BULK AT MOST 1048576: true; the input reads as it did. -/
def auditTellsUptoRow : OpenClaim := { program := "ytajddhechcneoaa", sum := "0d59476062fd0edd0f4c7a14e56a9cc9723c56ae33431d199fbf0d3cfebcba8c", func := "wayfinder/wayfinderlaw23.AuditTells", spec := "auditTells", unfollowed := true, recurses := true, plainKeys := false, apart := false, narrowed := true }
def AuditTellsUptoSaid : Prop := auditTellsUptoRow.holds Try.pinned (OpenSpec.upto auditTellsSpec)

/-- 'wayfinderlaw23.AuditWalks', WHERE WHAT IT READS IS OF BULK AT MOST 1048576: true; the input reads as it did. -/
def auditWalksUptoRow : OpenClaim := { program := "ytajddhechcneoaa", sum := "0d59476062fd0edd0f4c7a14e56a9cc9723c56ae33431d199fbf0d3cfebcba8c", func := "wayfinder/wayfinderlaw23.AuditWalks", spec := "auditWalks", unfollowed := true, recurses := true, plainKeys := false, apart := false, narrowed := true }
def AuditWalksUptoSaid : Prop := auditWalksUptoRow.holds Try.pinned (OpenSpec.upto auditWalksSpec)

/-- 'wayfinderlaw23.AuditParts', WHERE WHAT IT READS IS OF BULK AT MOST 1048576: true; the input reads as it did. -/
def auditPartsUptoRow : OpenClaim := { program := "ytajddhechcneoaa", sum := "0d59476062fd0edd0f4c7a14e56a9cc9723c56ae33431d199fbf0d3cfebcba8c", func := "wayfinder/wayfinderlaw23.AuditParts", spec := "auditParts", unfollowed := true, recurses := true, plainKeys := false, apart := false, narrowed := true }
def AuditPartsUptoSaid : Prop := auditPartsUptoRow.holds Try.pinned (OpenSpec.upto auditPartsSpec)

/-- 'wayfinderlaw23.AuditBegins', WHERE WHAT IT READS IS OF BULK AT MOST 1048576: true; the input reads as it did. -/
def auditBeginsUptoRow : OpenClaim := { program := "ytajddhechcneoaa", sum := "0d59476062fd0edd0f4c7a14e56a9cc9723c56ae33431d199fbf0d3cfebcba8c", func := "wayfinder/wayfinderlaw23.AuditBegins", spec := "auditBegins", unfollowed := true, recurses := true, plainKeys := false, apart := false, narrowed := true }
def AuditBeginsUptoSaid : Prop := auditBeginsUptoRow.holds Try.pinned (OpenSpec.upto auditBeginsSpec)

/-- 'wayfinderlaw23.AuditTags', WHERE WHAT IT READS IS OF BULK AT MOST 1048576: true; the input reads as it did. -/
def auditTagsUptoRow : OpenClaim := { program := "ytajddhechcneoaa", sum := "0d59476062fd0edd0f4c7a14e56a9cc9723c56ae33431d199fbf0d3cfebcba8c", func := "wayfinder/wayfinderlaw23.AuditTags", spec := "auditTags", unfollowed := true, recurses := true, plainKeys := false, apart := false, narrowed := true }
def AuditTagsUptoSaid : Prop := auditTagsUptoRow.holds Try.pinned (OpenSpec.upto auditTagsSpec)

end Rows
end Go.Proofs.Ytajddhechcneoaa
