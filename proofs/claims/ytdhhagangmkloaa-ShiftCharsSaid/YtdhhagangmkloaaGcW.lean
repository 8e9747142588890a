/- Layer 7: calls as they come in; contracts, all in one table. -/
import Derived.Test.YtdhhagangmkloaaGcU
import Derived.Test.YtdhhagangmkloaaVW
set_option linter.unusedSimpArgs false
set_option linter.unusedVariables false
set_option linter.unusedSectionVars false
namespace Go.Proofs.Ytdhhagangmkloaa
open Go Go.Sym

def ptabV : List (Nat × PS) := [(22, psAwake)]
theorem ptabV_ok : Pures Try.prog ptabV := ⟨ok_awake07, trivial⟩
/-- A call, as it comes in. -/
structure O7 where
  ask : Int
  ar : Int
  ac : Int
  br : Int
  bc : Int
  g : Int
  a : Int
  gd : Bool
  m : Int
  q : Bool
def o7 : O7 := ⟨0, 0, 0, 0, 0, 0, 0, false, 0, false⟩
def O7.c (o : O7) : C4 := ⟨o.g, o.a, o.gd, o.m⟩
def o7IC (o : O7) (fo : Nat) : IC := match fo with
  | 0 => .pl (.int .i64 o.ask)
  | 1 => .pl (.int .i64 o.ar)
  | 2 => .pl (.int .i64 o.ac)
  | 3 => .pl (.int .i64 o.br)
  | 4 => .pl (.int .i64 o.bc)
  | 5 => .pl (.int .i32 o.g)
  | 6 => .pl (.int .i64 o.a)
  | 7 => .pl (.bool o.gd)
  | 8 => .pl (.int .i64 o.m)
  | _ => .pl (.bool o.q)
def o7sIC (l : List O7) : IC := .sl l.length 10 fun i fo => o7IC (l.getD i o7) fo
def tabV : List (Nat × ACon Unit) := (23, lcMade) :: (24, lcDoes7) :: (25, lcAsked) :: (26, lcSame) :: tabU0
theorem tabV_ok : LCs Try.prog tabV := ⟨ok_made, ok_does7, ok_asked, ok_same, tabU0_ok⟩
end Go.Proofs.Ytdhhagangmkloaa
