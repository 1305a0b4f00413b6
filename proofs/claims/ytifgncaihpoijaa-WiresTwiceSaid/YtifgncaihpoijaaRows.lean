/-
  No cell of these rows narrows 'for every input' (looked for: loops, veiled, ifaces, maps, wideKeys, modest, calm, conditions, laid).
  DERIVED. THE GIVEN ROWS OF THIS SEAT. 12 by the template 'for every input the law returns true; each argument reads behind the call as it read before'; 0 by the template 'total and deterministic' (their statements: YtifgncaihpoijaaTotals.lean).
  GIVEN WITH THE SEED: the statements are not yours to turn. If you find one false, say at which input.
  Laid BY PROGRAM, IN A SANDBOX (cutbox-rows.mjs): the forced cells as the released guide's own fill.sh prints them over the translation 9cb753b1005c66c0… (all of the seat's roots in one cut). By AI agents, Wed Nov 11 2026. No macro, syntax, notation, axiom, sorry.
-/
import Derived.Test.YtifgncaihpoijaaChecked
import GoSem.Claim
import GoSem.ClaimJoined
import GoSem.ClaimMapViews
import Derived.JoinedTies
import Derived.KernelRfl
namespace Go.Proofs.Ytifgncaihpoijaa
/- THE CELL 'sum', in the pinned program and in every row, IS THE sha256 OF THE DUMP (.gsa) THAT YtifgncaihpoijaaProg.lean LOADS. Nothing in Lean hashes anything: it is a label: what it is worth is what the hold of that sum in a sandbox is worth. -/
noncomputable def Try.pinned : Pinned := { name := "ytifgncaihpoijaa", sum := "9cb753b1005c66c03dba71008de0ce995c6e7960fe027077c3638bb9a95497db", checked := Try.checked }
namespace Rows
def none {H : Type} : Left H := { results := [], args := [] }

/-- 'wayfinderlaw20.PlanEnds': WHATEVER THE INPUT: true; the input reads as it did. -/
def planEndsSpec : ChangeSpec := { name := "planEnds", fn := fun _ => fun
  | [d1, d2] => { results := [.lit (.bool true)], args := [d1, d2] }
  | _ => none }
def planEndsRow : OpenClaim := { program := "ytifgncaihpoijaa", sum := "9cb753b1005c66c03dba71008de0ce995c6e7960fe027077c3638bb9a95497db", func := "wayfinder/wayfinderlaw20.PlanEnds", spec := "planEnds", unfollowed := true, recurses := true, apart := false }
def PlanEndsSaid : Prop := planEndsRow.holds Try.pinned (OpenSpec.ofChange planEndsSpec)

/-- ITS FALSE NEIGHBOUR: 'it returns false'. Refute it at one input. -/
def planEndsWrong : ChangeSpec := { name := "planEnds", fn := fun _ => fun
  | [d1, d2] => { results := [.lit (.bool false)], args := [d1, d2] }
  | _ => none }
def PlanEndsWrongFalsely : Prop := planEndsRow.holds Try.pinned (OpenSpec.ofChange planEndsWrong)

/-- 'wayfinderlaw16.TagsTell': WHATEVER THE INPUT: true; the input reads as it did. -/
def tagsTellSpec : ChangeSpec := { name := "tagsTell", fn := fun _ => fun
  | [d1, d2, d3] => { results := [.lit (.bool true)], args := [d1, d2, d3] }
  | _ => none }
def tagsTellRow : OpenClaim := { program := "ytifgncaihpoijaa", sum := "9cb753b1005c66c03dba71008de0ce995c6e7960fe027077c3638bb9a95497db", func := "wayfinder/wayfinderlaw16.TagsTell", spec := "tagsTell", unfollowed := true, recurses := true, apart := false }
def TagsTellSaid : Prop := tagsTellRow.holds Try.pinned (OpenSpec.ofChange tagsTellSpec)

/-- ITS FALSE NEIGHBOUR: 'it returns false'. Refute it at one input. -/
def tagsTellWrong : ChangeSpec := { name := "tagsTell", fn := fun _ => fun
  | [d1, d2, d3] => { results := [.lit (.bool false)], args := [d1, d2, d3] }
  | _ => none }
def TagsTellWrongFalsely : Prop := tagsTellRow.holds Try.pinned (OpenSpec.ofChange tagsTellWrong)

/-- 'wayfinderlaw16.TagsFree': WHATEVER THE INPUT: true; the input reads as it did. -/
def tagsFreeSpec : ChangeSpec := { name := "tagsFree", fn := fun _ => fun
  | [d1, d2] => { results := [.lit (.bool true)], args := [d1, d2] }
  | _ => none }
def tagsFreeRow : OpenClaim := { program := "ytifgncaihpoijaa", sum := "9cb753b1005c66c03dba71008de0ce995c6e7960fe027077c3638bb9a95497db", func := "wayfinder/wayfinderlaw16.TagsFree", spec := "tagsFree", unfollowed := true, recurses := true, apart := false }
def TagsFreeSaid : Prop := tagsFreeRow.holds Try.pinned (OpenSpec.ofChange tagsFreeSpec)

/-- ITS FALSE NEIGHBOUR: 'it returns false'. Refute it at one input. -/
def tagsFreeWrong : ChangeSpec := { name := "tagsFree", fn := fun _ => fun
  | [d1, d2] => { results := [.lit (.bool false)], args := [d1, d2] }
  | _ => none }
def TagsFreeWrongFalsely : Prop := tagsFreeRow.holds Try.pinned (OpenSpec.ofChange tagsFreeWrong)

/-- 'wayfinderlaw16.TagsAgain': WHATEVER THE INPUT: true; the input reads as it did. -/
def tagsAgainSpec : ChangeSpec := { name := "tagsAgain", fn := fun _ => fun
  | [d1, d2] => { results := [.lit (.bool true)], args := [d1, d2] }
  | _ => none }
def tagsAgainRow : OpenClaim := { program := "ytifgncaihpoijaa", sum := "9cb753b1005c66c03dba71008de0ce995c6e7960fe027077c3638bb9a95497db", func := "wayfinder/wayfinderlaw16.TagsAgain", spec := "tagsAgain", unfollowed := true, recurses := true, apart := false }
def TagsAgainSaid : Prop := tagsAgainRow.holds Try.pinned (OpenSpec.ofChange tagsAgainSpec)

/-- ITS FALSE NEIGHBOUR: 'it returns false'. Refute it at one input. -/
def tagsAgainWrong : ChangeSpec := { name := "tagsAgain", fn := fun _ => fun
  | [d1, d2] => { results := [.lit (.bool false)], args := [d1, d2] }
  | _ => none }
def TagsAgainWrongFalsely : Prop := tagsAgainRow.holds Try.pinned (OpenSpec.ofChange tagsAgainWrong)

/-- 'wayfinderlaw16.TagsLast': WHATEVER THE INPUT: true; the input reads as it did. -/
def tagsLastSpec : ChangeSpec := { name := "tagsLast", fn := fun _ => fun
  | [d1, d2, d3] => { results := [.lit (.bool true)], args := [d1, d2, d3] }
  | _ => none }
def tagsLastRow : OpenClaim := { program := "ytifgncaihpoijaa", sum := "9cb753b1005c66c03dba71008de0ce995c6e7960fe027077c3638bb9a95497db", func := "wayfinder/wayfinderlaw16.TagsLast", spec := "tagsLast", unfollowed := true, recurses := true, apart := false }
def TagsLastSaid : Prop := tagsLastRow.holds Try.pinned (OpenSpec.ofChange tagsLastSpec)

/-- ITS FALSE NEIGHBOUR: 'it returns false'. Refute it at one input. -/
def tagsLastWrong : ChangeSpec := { name := "tagsLast", fn := fun _ => fun
  | [d1, d2, d3] => { results := [.lit (.bool false)], args := [d1, d2, d3] }
  | _ => none }
def TagsLastWrongFalsely : Prop := tagsLastRow.holds Try.pinned (OpenSpec.ofChange tagsLastWrong)

/-- 'wayfinderlaw16.TagsUsed': WHATEVER THE INPUT: true; the input reads as it did. -/
def tagsUsedSpec : ChangeSpec := { name := "tagsUsed", fn := fun _ => fun
  | [d1, d2, d3] => { results := [.lit (.bool true)], args := [d1, d2, d3] }
  | _ => none }
def tagsUsedRow : OpenClaim := { program := "ytifgncaihpoijaa", sum := "9cb753b1005c66c03dba71008de0ce995c6e7960fe027077c3638bb9a95497db", func := "wayfinder/wayfinderlaw16.TagsUsed", spec := "tagsUsed", unfollowed := true, recurses := true, apart := false }
def TagsUsedSaid : Prop := tagsUsedRow.holds Try.pinned (OpenSpec.ofChange tagsUsedSpec)

/-- ITS FALSE NEIGHBOUR: 'it returns false'. Refute it at one input. -/
def tagsUsedWrong : ChangeSpec := { name := "tagsUsed", fn := fun _ => fun
  | [d1, d2, d3] => { results := [.lit (.bool false)], args := [d1, d2, d3] }
  | _ => none }
def TagsUsedWrongFalsely : Prop := tagsUsedRow.holds Try.pinned (OpenSpec.ofChange tagsUsedWrong)

/-- 'wayfinderlaw16.TagsNone': WHATEVER THE INPUT: true; the input reads as it did. -/
def tagsNoneSpec : ChangeSpec := { name := "tagsNone", fn := fun _ => fun
  | [d1, d2] => { results := [.lit (.bool true)], args := [d1, d2] }
  | _ => none }
def tagsNoneRow : OpenClaim := { program := "ytifgncaihpoijaa", sum := "9cb753b1005c66c03dba71008de0ce995c6e7960fe027077c3638bb9a95497db", func := "wayfinder/wayfinderlaw16.TagsNone", spec := "tagsNone", unfollowed := true, recurses := true, apart := false }
def TagsNoneSaid : Prop := tagsNoneRow.holds Try.pinned (OpenSpec.ofChange tagsNoneSpec)

/-- ITS FALSE NEIGHBOUR: 'it returns false'. Refute it at one input. -/
def tagsNoneWrong : ChangeSpec := { name := "tagsNone", fn := fun _ => fun
  | [d1, d2] => { results := [.lit (.bool false)], args := [d1, d2] }
  | _ => none }
def TagsNoneWrongFalsely : Prop := tagsNoneRow.holds Try.pinned (OpenSpec.ofChange tagsNoneWrong)

/-- 'wayfinderlaw14.WiresTell': WHATEVER THE INPUT: true; the input reads as it did. -/
def wiresTellSpec : ChangeSpec := { name := "wiresTell", fn := fun _ => fun
  | [d1, d2, d3, d4] => { results := [.lit (.bool true)], args := [d1, d2, d3, d4] }
  | _ => none }
def wiresTellRow : OpenClaim := { program := "ytifgncaihpoijaa", sum := "9cb753b1005c66c03dba71008de0ce995c6e7960fe027077c3638bb9a95497db", func := "wayfinder/wayfinderlaw14.WiresTell", spec := "wiresTell", apart := false }
def WiresTellSaid : Prop := wiresTellRow.holds Try.pinned (OpenSpec.ofChange wiresTellSpec)

/-- ITS FALSE NEIGHBOUR: 'it returns false'. Refute it at one input. -/
def wiresTellWrong : ChangeSpec := { name := "wiresTell", fn := fun _ => fun
  | [d1, d2, d3, d4] => { results := [.lit (.bool false)], args := [d1, d2, d3, d4] }
  | _ => none }
def WiresTellWrongFalsely : Prop := wiresTellRow.holds Try.pinned (OpenSpec.ofChange wiresTellWrong)

/-- 'wayfinderlaw14.WiresCount': WHATEVER THE INPUT: true; the input reads as it did. -/
def wiresCountSpec : ChangeSpec := { name := "wiresCount", fn := fun _ => fun
  | [d1, d2, d3] => { results := [.lit (.bool true)], args := [d1, d2, d3] }
  | _ => none }
def wiresCountRow : OpenClaim := { program := "ytifgncaihpoijaa", sum := "9cb753b1005c66c03dba71008de0ce995c6e7960fe027077c3638bb9a95497db", func := "wayfinder/wayfinderlaw14.WiresCount", spec := "wiresCount", apart := false }
def WiresCountSaid : Prop := wiresCountRow.holds Try.pinned (OpenSpec.ofChange wiresCountSpec)

/-- ITS FALSE NEIGHBOUR: 'it returns false'. Refute it at one input. -/
def wiresCountWrong : ChangeSpec := { name := "wiresCount", fn := fun _ => fun
  | [d1, d2, d3] => { results := [.lit (.bool false)], args := [d1, d2, d3] }
  | _ => none }
def WiresCountWrongFalsely : Prop := wiresCountRow.holds Try.pinned (OpenSpec.ofChange wiresCountWrong)

/-- 'wayfinderlaw14.WiresOwn': WHATEVER THE INPUT: true; the input reads as it did. -/
def wiresOwnSpec : ChangeSpec := { name := "wiresOwn", fn := fun _ => fun
  | [d1, d2] => { results := [.lit (.bool true)], args := [d1, d2] }
  | _ => none }
def wiresOwnRow : OpenClaim := { program := "ytifgncaihpoijaa", sum := "9cb753b1005c66c03dba71008de0ce995c6e7960fe027077c3638bb9a95497db", func := "wayfinder/wayfinderlaw14.WiresOwn", spec := "wiresOwn", apart := false }
def WiresOwnSaid : Prop := wiresOwnRow.holds Try.pinned (OpenSpec.ofChange wiresOwnSpec)

/-- ITS FALSE NEIGHBOUR: 'it returns false'. Refute it at one input. -/
def wiresOwnWrong : ChangeSpec := { name := "wiresOwn", fn := fun _ => fun
  | [d1, d2] => { results := [.lit (.bool false)], args := [d1, d2] }
  | _ => none }
def WiresOwnWrongFalsely : Prop := wiresOwnRow.holds Try.pinned (OpenSpec.ofChange wiresOwnWrong)

/-- 'wayfinderlaw14.WiresLast': WHATEVER THE INPUT: true; the input reads as it did. -/
def wiresLastSpec : ChangeSpec := { name := "wiresLast", fn := fun _ => fun
  | [d1, d2] => { results := [.lit (.bool true)], args := [d1, d2] }
  | _ => none }
def wiresLastRow : OpenClaim := { program := "ytifgncaihpoijaa", sum := "9cb753b1005c66c03dba71008de0ce995c6e7960fe027077c3638bb9a95497db", func := "wayfinder/wayfinderlaw14.WiresLast", spec := "wiresLast", apart := false }
def WiresLastSaid : Prop := wiresLastRow.holds Try.pinned (OpenSpec.ofChange wiresLastSpec)

/-- ITS FALSE NEIGHBOUR: 'it returns false'. Refute it at one input. -/
def wiresLastWrong : ChangeSpec := { name := "wiresLast", fn := fun _ => fun
  | [d1, d2] => { results := [.lit (.bool false)], args := [d1, d2] }
  | _ => none }
def WiresLastWrongFalsely : Prop := wiresLastRow.holds Try.pinned (OpenSpec.ofChange wiresLastWrong)

/-- 'wayfinderlaw14.WiresTwice': WHATEVER THE INPUT: true; the input reads as it did. -/
def wiresTwiceSpec : ChangeSpec := { name := "wiresTwice", fn := fun _ => fun
  | [d1, d2] => { results := [.lit (.bool true)], args := [d1, d2] }
  | _ => none }
def wiresTwiceRow : OpenClaim := { program := "ytifgncaihpoijaa", sum := "9cb753b1005c66c03dba71008de0ce995c6e7960fe027077c3638bb9a95497db", func := "wayfinder/wayfinderlaw14.WiresTwice", spec := "wiresTwice", apart := false }
def WiresTwiceSaid : Prop := wiresTwiceRow.holds Try.pinned (OpenSpec.ofChange wiresTwiceSpec)

/-- ITS FALSE NEIGHBOUR: 'it returns false'. Refute it at one input. -/
def wiresTwiceWrong : ChangeSpec := { name := "wiresTwice", fn := fun _ => fun
  | [d1, d2] => { results := [.lit (.bool false)], args := [d1, d2] }
  | _ => none }
def WiresTwiceWrongFalsely : Prop := wiresTwiceRow.holds Try.pinned (OpenSpec.ofChange wiresTwiceWrong)

/- THE SECOND FORM. 'bulk': how many values and letters a reading holds, each counted each time it is reached (what is shared counts as often as it is met; a slice's spare places count too). A statement '..UptoSaid' is the law's where the arguments, and the package variables that the reading takes, are together of bulk at most 1048576: NARROWER than '..Said'. Prove '..Said' where nothing that the law and all that it calls make is longer than what came in: it says more and counts as full. Else prove '..UptoSaid'. A law counts once. -/
mutual
def uptoBulk {H : Type} : DataW H → Nat
  | .lit (.string bytes) => bytes.length + 1
  | .lit _ => 1
  | .nil => 1
  | .ptr d => uptoBulk d + 1
  | .slice elems spare => uptoBulkAll elems + uptoBulkAll spare + 1
  | .agg parts => uptoBulkAll parts + 1
  | .iface _ d => uptoBulk d + 1
  | .map entries => uptoBulkEntries entries + 1
  | .held _ => 1
def uptoBulkAll {H : Type} : List (DataW H) → Nat
  | [] => 0
  | d :: r => uptoBulk d + uptoBulkAll r
def uptoBulkEntries {H : Type} : List (Lit × DataW H) → Nat
  | [] => 0
  | x :: r => uptoBulkEntry x + uptoBulkEntries r
def uptoBulkEntry {H : Type} : Lit × DataW H → Nat
  | (.string bytes, d) => bytes.length + uptoBulk d + 1
  | (_, d) => uptoBulk d + 1
 end
def uptoSmall : (H : Type) → List (DataW H) → Bool := fun _ ds => decide (uptoBulkAll ds ≤ 1048576)
def OpenSpec.upto (s : _root_.Go.ChangeSpec) : _root_.Go.OpenSpec := { _root_.Go.OpenSpec.ofChange s with cond := some uptoSmall }

/-- 'wayfinderlaw20.PlanEnds', WHERE WHAT IT READS IS OF BULK AT MOST 1048576: true; the input reads as it did. -/
def planEndsUptoRow : OpenClaim := { program := "ytifgncaihpoijaa", sum := "9cb753b1005c66c03dba71008de0ce995c6e7960fe027077c3638bb9a95497db", func := "wayfinder/wayfinderlaw20.PlanEnds", spec := "planEnds", unfollowed := true, recurses := true, apart := false, narrowed := true }
def PlanEndsUptoSaid : Prop := planEndsUptoRow.holds Try.pinned (OpenSpec.upto planEndsSpec)

/-- 'wayfinderlaw16.TagsTell', WHERE WHAT IT READS IS OF BULK AT MOST 1048576: true; the input reads as it did. -/
def tagsTellUptoRow : OpenClaim := { program := "ytifgncaihpoijaa", sum := "9cb753b1005c66c03dba71008de0ce995c6e7960fe027077c3638bb9a95497db", func := "wayfinder/wayfinderlaw16.TagsTell", spec := "tagsTell", unfollowed := true, recurses := true, apart := false, narrowed := true }
def TagsTellUptoSaid : Prop := tagsTellUptoRow.holds Try.pinned (OpenSpec.upto tagsTellSpec)

/-- 'wayfinderlaw16.TagsFree', WHERE WHAT IT READS IS OF BULK AT MOST 1048576: true; the input reads as it did. -/
def tagsFreeUptoRow : OpenClaim := { program := "ytifgncaihpoijaa", sum := "9cb753b1005c66c03dba71008de0ce995c6e7960fe027077c3638bb9a95497db", func := "wayfinder/wayfinderlaw16.TagsFree", spec := "tagsFree", unfollowed := true, recurses := true, apart := false, narrowed := true }
def TagsFreeUptoSaid : Prop := tagsFreeUptoRow.holds Try.pinned (OpenSpec.upto tagsFreeSpec)

/-- 'wayfinderlaw16.TagsAgain', WHERE WHAT IT READS IS OF BULK AT MOST 1048576: true; the input reads as it did. -/
def tagsAgainUptoRow : OpenClaim := { program := "ytifgncaihpoijaa", sum := "9cb753b1005c66c03dba71008de0ce995c6e7960fe027077c3638bb9a95497db", func := "wayfinder/wayfinderlaw16.TagsAgain", spec := "tagsAgain", unfollowed := true, recurses := true, apart := false, narrowed := true }
def TagsAgainUptoSaid : Prop := tagsAgainUptoRow.holds Try.pinned (OpenSpec.upto tagsAgainSpec)

/-- 'wayfinderlaw16.TagsLast', WHERE WHAT IT READS IS OF BULK AT MOST 1048576: true; the input reads as it did. -/
def tagsLastUptoRow : OpenClaim := { program := "ytifgncaihpoijaa", sum := "9cb753b1005c66c03dba71008de0ce995c6e7960fe027077c3638bb9a95497db", func := "wayfinder/wayfinderlaw16.TagsLast", spec := "tagsLast", unfollowed := true, recurses := true, apart := false, narrowed := true }
def TagsLastUptoSaid : Prop := tagsLastUptoRow.holds Try.pinned (OpenSpec.upto tagsLastSpec)

/-- 'wayfinderlaw16.TagsUsed', WHERE WHAT IT READS IS OF BULK AT MOST 1048576: true; the input reads as it did. -/
def tagsUsedUptoRow : OpenClaim := { program := "ytifgncaihpoijaa", sum := "9cb753b1005c66c03dba71008de0ce995c6e7960fe027077c3638bb9a95497db", func := "wayfinder/wayfinderlaw16.TagsUsed", spec := "tagsUsed", unfollowed := true, recurses := true, apart := false, narrowed := true }
def TagsUsedUptoSaid : Prop := tagsUsedUptoRow.holds Try.pinned (OpenSpec.upto tagsUsedSpec)

/-- 'wayfinderlaw16.TagsNone', WHERE WHAT IT READS IS OF BULK AT MOST 1048576: true; the input reads as it did. -/
def tagsNoneUptoRow : OpenClaim := { program := "ytifgncaihpoijaa", sum := "9cb753b1005c66c03dba71008de0ce995c6e7960fe027077c3638bb9a95497db", func := "wayfinder/wayfinderlaw16.TagsNone", spec := "tagsNone", unfollowed := true, recurses := true, apart := false, narrowed := true }
def TagsNoneUptoSaid : Prop := tagsNoneUptoRow.holds Try.pinned (OpenSpec.upto tagsNoneSpec)

/-- 'wayfinderlaw14.WiresTell', WHERE WHAT IT READS IS OF BULK AT MOST 1048576: true; the input reads as it did. -/
def wiresTellUptoRow : OpenClaim := { program := "ytifgncaihpoijaa", sum := "9cb753b1005c66c03dba71008de0ce995c6e7960fe027077c3638bb9a95497db", func := "wayfinder/wayfinderlaw14.WiresTell", spec := "wiresTell", apart := false, narrowed := true }
def WiresTellUptoSaid : Prop := wiresTellUptoRow.holds Try.pinned (OpenSpec.upto wiresTellSpec)

/-- 'wayfinderlaw14.WiresCount', WHERE WHAT IT READS IS OF BULK AT MOST 1048576: true; the input reads as it did. -/
def wiresCountUptoRow : OpenClaim := { program := "ytifgncaihpoijaa", sum := "9cb753b1005c66c03dba71008de0ce995c6e7960fe027077c3638bb9a95497db", func := "wayfinder/wayfinderlaw14.WiresCount", spec := "wiresCount", apart := false, narrowed := true }
def WiresCountUptoSaid : Prop := wiresCountUptoRow.holds Try.pinned (OpenSpec.upto wiresCountSpec)

/-- 'wayfinderlaw14.WiresOwn', WHERE WHAT IT READS IS OF BULK AT MOST 1048576: true; the input reads as it did. -/
def wiresOwnUptoRow : OpenClaim := { program := "ytifgncaihpoijaa", sum := "9cb753b1005c66c03dba71008de0ce995c6e7960fe027077c3638bb9a95497db", func := "wayfinder/wayfinderlaw14.WiresOwn", spec := "wiresOwn", apart := false, narrowed := true }
def WiresOwnUptoSaid : Prop := wiresOwnUptoRow.holds Try.pinned (OpenSpec.upto wiresOwnSpec)

/-- 'wayfinderlaw14.WiresLast', WHERE WHAT IT READS IS OF BULK AT MOST 1048576: true; the input reads as it did. -/
def wiresLastUptoRow : OpenClaim := { program := "ytifgncaihpoijaa", sum := "9cb753b1005c66c03dba71008de0ce995c6e7960fe027077c3638bb9a95497db", func := "wayfinder/wayfinderlaw14.WiresLast", spec := "wiresLast", apart := false, narrowed := true }
def WiresLastUptoSaid : Prop := wiresLastUptoRow.holds Try.pinned (OpenSpec.upto wiresLastSpec)

/-- 'wayfinderlaw14.WiresTwice', WHERE WHAT IT READS IS OF BULK AT MOST 1048576: true; the input reads as it did. -/
def wiresTwiceUptoRow : OpenClaim := { program := "ytifgncaihpoijaa", sum := "9cb753b1005c66c03dba71008de0ce995c6e7960fe027077c3638bb9a95497db", func := "wayfinder/wayfinderlaw14.WiresTwice", spec := "wiresTwice", apart := false, narrowed := true }
def WiresTwiceUptoSaid : Prop := wiresTwiceUptoRow.holds Try.pinned (OpenSpec.upto wiresTwiceSpec)

end Rows
end Go.Proofs.Ytifgncaihpoijaa
