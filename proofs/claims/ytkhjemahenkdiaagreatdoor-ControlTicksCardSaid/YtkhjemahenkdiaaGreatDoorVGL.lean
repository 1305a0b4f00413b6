/- The program's variables that are only read. Printed by vgen.py. -/
import Derived.Test.YtkhjemahenkdiaaGreatDoorVA
namespace Go.Proofs.YtkhjemahenkdiaaGreatDoor.V
open Go Go.RowKit
abbrev TGlob0 : Ty := (.pair (.pair (.int .i64) (.int .i64)) (.pair (.pair (.int .i64) (.int .i64)) .bool))
def glob0 : List TGlob0.T := [((0, 0), ((0, 0), false)), ((0, 1048576), ((0, 4095), false)), ((1, 1048576), ((1, 4095), true)), ((1, 1048576), ((1, 4095), false)), ((1, 1048576), ((1, 4095), false)), ((1, 1048576), ((0, 0), false))]
def globs : List (Nat × (τ : Ty) × List τ.T) := [(0, ⟨TGlob0, glob0⟩)]
end Go.Proofs.YtkhjemahenkdiaaGreatDoor.V
