/- No maps here. -/
import Derived.Test.YtkhjemahenkdiaaGreatDoorVMA
namespace Go.Proofs.YtkhjemahenkdiaaGreatDoor.V
open Go Go.RowKit
set_option linter.unusedVariables false
set_option linter.unusedSimpArgs false
section
variable {P : Program} {F0 : Nat → Prop} {w0 : World} {E : En} {σ : St} {a : Act} {w : World} {tt : TT} {heap : Heap}
def semMakeD (tt : TT) (nt hn sb : Nat) (dst : Option Nat) (t : Nat) (r : Option Operand) : Rd := .fail
theorem ok_makeD {o : Oper} {t : Nat} {r : Option Operand} {Q : Exit → Act → World → Prop} {ws : List Wr} (ho : o.op = .makeMap t r) (hI : Inv F0 w0 E σ a w) (h : Rd.fail.gives σ ws) : Good P F0 w0 E o a w (σ.aps ws) Q := absurd h Rd.gives_fail
def semInsD (tt : TT) (nt : Nat) (dst : Option Nat) (t : Nat) (m k v : Operand) : Rd := .fail
theorem ok_insD (hck : tt.ck P = true) {o : Oper} {t : Nat} {m k v : Operand} {Q : Exit → Act → World → Prop} {ws : List Wr} (ho : o.op = .insert t m k v ∨ o.op = .mapUpdate t m k v) (hI : Inv F0 w0 E σ a w) (h : Rd.fail.gives σ ws) : Good P F0 w0 E o a w (σ.aps ws) Q := absurd h Rd.gives_fail
def semLookD (tt : TT) (nt : Nat) (lu : Option Nat) (dst : Option Nat) (t : Nat) (m k : Operand) (ok : Bool) : Rd := .fail
theorem ok_lookD (hck : tt.ck P = true) {o : Oper} {t : Nat} {m k : Operand} {ok : Bool} {Q : Exit → Act → World → Prop} {ws : List Wr} (ho : o.op = .lookup t m k ok) (hI : Inv F0 w0 E σ a w) (h : Rd.fail.gives σ ws) : Good P F0 w0 E o a w (σ.aps ws) Q := absurd h Rd.gives_fail
def semLenD (tt : TT) (nt : Nat) (dst : Option Nat) (t : Nat) (x : Operand) : Rd := semLen tt nt dst t x
theorem ok_lenD (hck : tt.ck P = true) {o : Oper} {t : Nat} {x : Operand} {Q : Exit → Act → World → Prop} {ws : List Wr} (ho : o.op = .call { callee := .builtin .len, args := #[x], argTypes := #[t] }) (hI : Inv F0 w0 E σ a w) (h : (semLenD tt σ.nt o.dst t x).gives σ ws) : Good P F0 w0 E o a w (σ.aps ws) Q := ok_len hck ho hI h
end
end Go.Proofs.YtkhjemahenkdiaaGreatDoor.V
