/- The program's variables that are only read: none. (vgen.py prints another text for a program that has some.) -/
import Derived.Test.YtajddhechcneoaaVA
namespace Go.Proofs.Ytajddhechcneoaa.V
open Go Go.RowKit
def globs : List (Nat × (τ : Ty) × List τ.T) := []
end Go.Proofs.Ytajddhechcneoaa.V
