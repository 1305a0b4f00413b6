/- No library calls that take a slice of one's own here. -/
import Derived.Test.YtkhjemahenkdiaaGreatDoorVN
namespace Go.Proofs.YtkhjemahenkdiaaGreatDoor.V
open Go Go.RowKit
set_option linter.unusedVariables false
set_option linter.unusedSimpArgs false
def lnkFit {α β : Type} (m mB : Nat) (xs : List (α × List β)) : Bool := Nat.ble ((xs.length + 1) * m) 140737488355328 && xs.all fun x => Nat.ble (x.2.length * mB) 140737488355328
inductive Prim where
  | no
def PrimOk (P : Program) (f : Nat) (p : Prim) : Prop := True
structure PH where
  sb : Nat := 0
def semPrim (nt hn : Nat) (h : PH) (dst : Option Nat) (p : Prim) (args : List Operand) : Rd := .fail
section
variable {P : Program} {F0 : Nat → Prop} {w0 : World} {E : En} {σ : St} {a : Act} {w : World} {tt : TT} {heap : Heap}
theorem ok_prim {o : Oper} {f : Nat} {p : Prim} {args : Array Operand} {ts : Array Nat} {Q : Exit → Act → World → Prop} {ws : List Wr} (hp : PrimOk P f p) (ho : o.op = .call { callee := .value (.func f), args := args, argTypes := ts }) (hI : Inv F0 w0 E σ a w)
    (h : Rd.fail.gives σ ws) : Good P F0 w0 E o a w (σ.aps ws) Q := absurd h Rd.gives_fail
end
end Go.Proofs.YtkhjemahenkdiaaGreatDoor.V
