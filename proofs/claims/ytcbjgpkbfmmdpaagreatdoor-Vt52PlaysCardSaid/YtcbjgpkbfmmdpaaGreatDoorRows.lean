/-
  NARROWER THAN 'FOR EVERY INPUT', by the rows' own cells (each row's printed sentence says how): Vt52Plays: laid.
  DERIVED. THE GIVEN ROWS OF THIS SEAT. 1 by the template 'for every input the law returns true; each argument reads behind the call as it read before'; 0 by the template 'total and deterministic' (their statements: YtcbjgpkbfmmdpaaGreatDoorTotals.lean).
  GIVEN WITH THE SEED: the statements are not yours to turn. If you find one false, say at which input.
  Laid BY PROGRAM, IN A SANDBOX (cutbox-rows.mjs): the forced cells as the released guide's own fill.sh prints them over the translation b6225d11d624f5ab… (all of the seat's roots in one cut). By AI agents, Wed Nov 11 2026. No macro, syntax, notation, axiom, sorry.
-/
import Derived.Test.YtcbjgpkbfmmdpaaGreatDoorChecked
import GoSem.Claim
import GoSem.ClaimJoined
import GoSem.ClaimMapViews
import Derived.JoinedTies
import Derived.KernelRfl
namespace Go.Proofs.YtcbjgpkbfmmdpaaGreatDoor
/- THE CELL 'sum', in the pinned program and in every row, IS THE sha256 OF THE DUMP (.gsa) THAT YtcbjgpkbfmmdpaaGreatDoorProg.lean LOADS. Nothing in Lean hashes anything: it is a label: what it is worth is what the hold of that sum in a sandbox is worth. -/
noncomputable def Tryz.pinned : Pinned := { name := "ytcbjgpkbfmmdpaagreatdoor", sum := "b6225d11d624f5ab901b3cc9af2734c9076db9ec0c51826ecdad95f59a1bc70c", checked := Tryz.checked }
namespace Rows
def none {H : Type} : Left H := { results := [], args := [] }

/- WHAT THE LISTED PACKAGE-LEVEL VARIABLES READ AS WHEN THE CALL BEGINS. Each datum BY PROGRAM (the guide's laid-datum.mjs) off the statement by which the dump's own 'gosem.cut.vars' lays the variable. In a bare row this is a premise. The card (YtcbjgpkbfmmdpaaGreatDoorCards.lean) ties it to the program's text. -/
def laid_vizard_screen_Blank {H : Type} : DataW H := .agg [.lit (.int .i32 32), .lit (.int .i64 0), .lit (.bool false), .lit (.int .i64 0)]

/-- 'vizardlaw12.Vt52Plays': WHATEVER THE INPUT: true; the input reads as it did. -/
def vt52PlaysSpec : ChangeSpec := { name := "vt52Plays", fn := fun _ => fun
  | [d1, d2, d3] => { results := [.lit (.bool true)], args := [d1, d2, d3] }
  | _ => none }
def vt52PlaysRow : OpenClaim := { program := "ytcbjgpkbfmmdpaagreatdoor", sum := "b6225d11d624f5ab901b3cc9af2734c9076db9ec0c51826ecdad95f59a1bc70c", func := "vizard/vizardlaw12.Vt52Plays", spec := "vt52Plays", unfollowed := true, recurses := true, named := ["vizard/screen.Blank"], apart := false, laid := [("vizard/screen.Blank", laid_vizard_screen_Blank)] }
def Vt52PlaysSaid : Prop := vt52PlaysRow.holds Tryz.pinned (OpenSpec.ofChange vt52PlaysSpec)

/-- ITS FALSE NEIGHBOUR: 'it returns false'. Refute it at one input. -/
def vt52PlaysWrong : ChangeSpec := { name := "vt52Plays", fn := fun _ => fun
  | [d1, d2, d3] => { results := [.lit (.bool false)], args := [d1, d2, d3] }
  | _ => none }
def Vt52PlaysWrongFalsely : Prop := vt52PlaysRow.holds Tryz.pinned (OpenSpec.ofChange vt52PlaysWrong)

/- THE SECOND FORM. 'bulk': how many values and letters a reading holds, each counted each time it is reached (what is shared counts as often as it is met; a slice's spare places count too). A statement '..UptoSaid' is the law's where the arguments, and the package variables that the reading takes, are together of bulk at most 1048576: NARROWER than '..Said'. Prove '..Said' where nothing that the law and all that it calls make is longer than what came in: it says more and counts as full. Else prove '..UptoSaid'. A law counts once. -/
mutual
def uptoBulk {H : Type} : DataW H → Nat
  | .lit (.string bytes) => bytes.length + 1
  | .lit _ => 1
  | .nil => 1
  | .ptr d => uptoBulk d + 1
  | .slice elems spare => uptoBulkAll elems + uptoBulkAll spare + 1
  | .agg parts => uptoBulkAll parts + 1
  | .iface _ d => uptoBulk d + 1
  | .map entries => uptoBulkEntries entries + 1
  | .held _ => 1
def uptoBulkAll {H : Type} : List (DataW H) → Nat
  | [] => 0
  | d :: r => uptoBulk d + uptoBulkAll r
def uptoBulkEntries {H : Type} : List (Lit × DataW H) → Nat
  | [] => 0
  | x :: r => uptoBulkEntry x + uptoBulkEntries r
def uptoBulkEntry {H : Type} : Lit × DataW H → Nat
  | (.string bytes, d) => bytes.length + uptoBulk d + 1
  | (_, d) => uptoBulk d + 1
 end
def uptoSmall : (H : Type) → List (DataW H) → Bool := fun _ ds => decide (uptoBulkAll ds ≤ 1048576)
def OpenSpec.upto (s : _root_.Go.ChangeSpec) : _root_.Go.OpenSpec := { _root_.Go.OpenSpec.ofChange s with cond := some uptoSmall }

/-- 'vizardlaw12.Vt52Plays', WHERE WHAT IT READS IS OF BULK AT MOST 1048576: true; the input reads as it did. -/
def vt52PlaysUptoRow : OpenClaim := { program := "ytcbjgpkbfmmdpaagreatdoor", sum := "b6225d11d624f5ab901b3cc9af2734c9076db9ec0c51826ecdad95f59a1bc70c", func := "vizard/vizardlaw12.Vt52Plays", spec := "vt52Plays", unfollowed := true, recurses := true, named := ["vizard/screen.Blank"], apart := false, laid := [("vizard/screen.Blank", laid_vizard_screen_Blank)], narrowed := true }
def Vt52PlaysUptoSaid : Prop := vt52PlaysUptoRow.holds Tryz.pinned (OpenSpec.upto vt52PlaysSpec)

end Rows
end Go.Proofs.YtcbjgpkbfmmdpaaGreatDoor
