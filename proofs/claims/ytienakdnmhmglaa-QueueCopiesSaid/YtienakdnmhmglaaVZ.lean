/- Package-level variables that are read: what the program's text lays in each (here: none). -/
import GoSem.Core.Value
set_option linter.unusedSimpArgs false
namespace Go.Sym
open Go

def globs : List (Nat × List Value) := []
def lookG : List (Nat × List Value) → Nat → Option (List Value)
  | [], _ => none
  | (k, a) :: r, n => match Nat.beq k n with
    | true => some a
    | false => lookG r n
def globAt (g : Nat) : Option (List Value) := lookG globs g
end Go.Sym
