/-
  NARROWER THAN 'FOR EVERY INPUT', by the rows' own cells (each row's printed sentence says how): Vt52Writes: laid · Vt52Moves: laid · Vt52Graphs: laid · Vt52Bounds: laid · Vt52Nil: laid.
  DERIVED. THE GIVEN ROWS OF THIS SEAT. 5 by the template 'for every input the law returns true; each argument reads behind the call as it read before'; 0 by the template 'total and deterministic' (their statements: YtcbjgpkbfmmdpaaDoorTotals.lean).
  GIVEN WITH THE SEED: the statements are not yours to turn. If you find one false, say at which input.
  Laid BY PROGRAM, IN A SANDBOX (cutbox-rows.mjs): the forced cells as the released guide's own fill.sh prints them over the translation cdb4817064d0e841… (all of the seat's roots in one cut). By AI agents, Wed Nov 11 2026. No macro, syntax, notation, axiom, sorry.
-/
import Derived.Test.YtcbjgpkbfmmdpaaDoorChecked
import GoSem.Claim
import GoSem.ClaimJoined
import GoSem.ClaimMapViews
import Derived.JoinedTies
import Derived.KernelRfl
namespace Go.Proofs.YtcbjgpkbfmmdpaaDoor
/- THE CELL 'sum', in the pinned program and in every row, IS THE sha256 OF THE DUMP (.gsa) THAT YtcbjgpkbfmmdpaaDoorProg.lean LOADS. Nothing in Lean hashes anything: it is a label: what it is worth is what the hold of that sum in a sandbox is worth. -/
noncomputable def Tryd.pinned : Pinned := { name := "ytcbjgpkbfmmdpaadoor", sum := "cdb4817064d0e84104ccf2a1438bc6804cb3b043b445ef474be8f2f59524ecf9", checked := Tryd.checked }
namespace Rows
def none {H : Type} : Left H := { results := [], args := [] }

/- WHAT THE LISTED PACKAGE-LEVEL VARIABLES READ AS WHEN THE CALL BEGINS. Each datum BY PROGRAM (the guide's laid-datum.mjs) off the statement by which the dump's own 'gosem.cut.vars' lays the variable. In a bare row this is a premise. The card (YtcbjgpkbfmmdpaaDoorCards.lean) ties it to the program's text. -/
def laid_vizard_screen_Blank {H : Type} : DataW H := .agg [.lit (.int .i32 32), .lit (.int .i64 0), .lit (.bool false), .lit (.int .i64 0)]

/-- 'vizardlaw12.Vt52Writes': WHATEVER THE INPUT: true; the input reads as it did. -/
def vt52WritesSpec : ChangeSpec := { name := "vt52Writes", fn := fun _ => fun
  | [d1, d2, d3] => { results := [.lit (.bool true)], args := [d1, d2, d3] }
  | _ => none }
def vt52WritesRow : OpenClaim := { program := "ytcbjgpkbfmmdpaadoor", sum := "cdb4817064d0e84104ccf2a1438bc6804cb3b043b445ef474be8f2f59524ecf9", func := "vizard/vizardlaw12.Vt52Writes", spec := "vt52Writes", unfollowed := true, recurses := true, named := ["vizard/screen.Blank"], apart := false, laid := [("vizard/screen.Blank", laid_vizard_screen_Blank)] }
def Vt52WritesSaid : Prop := vt52WritesRow.holds Tryd.pinned (OpenSpec.ofChange vt52WritesSpec)

/-- ITS FALSE NEIGHBOUR: 'it returns false'. Refute it at one input. -/
def vt52WritesWrong : ChangeSpec := { name := "vt52Writes", fn := fun _ => fun
  | [d1, d2, d3] => { results := [.lit (.bool false)], args := [d1, d2, d3] }
  | _ => none }
def Vt52WritesWrongFalsely : Prop := vt52WritesRow.holds Tryd.pinned (OpenSpec.ofChange vt52WritesWrong)

/-- 'vizardlaw12.Vt52Moves': WHATEVER THE INPUT: true; the input reads as it did. -/
def vt52MovesSpec : ChangeSpec := { name := "vt52Moves", fn := fun _ => fun
  | [d1, d2, d3] => { results := [.lit (.bool true)], args := [d1, d2, d3] }
  | _ => none }
def vt52MovesRow : OpenClaim := { program := "ytcbjgpkbfmmdpaadoor", sum := "cdb4817064d0e84104ccf2a1438bc6804cb3b043b445ef474be8f2f59524ecf9", func := "vizard/vizardlaw12.Vt52Moves", spec := "vt52Moves", unfollowed := true, recurses := true, named := ["vizard/screen.Blank"], apart := false, laid := [("vizard/screen.Blank", laid_vizard_screen_Blank)] }
def Vt52MovesSaid : Prop := vt52MovesRow.holds Tryd.pinned (OpenSpec.ofChange vt52MovesSpec)

/-- ITS FALSE NEIGHBOUR: 'it returns false'. Refute it at one input. -/
def vt52MovesWrong : ChangeSpec := { name := "vt52Moves", fn := fun _ => fun
  | [d1, d2, d3] => { results := [.lit (.bool false)], args := [d1, d2, d3] }
  | _ => none }
def Vt52MovesWrongFalsely : Prop := vt52MovesRow.holds Tryd.pinned (OpenSpec.ofChange vt52MovesWrong)

/-- 'vizardlaw12.Vt52Graphs': WHATEVER THE INPUT: true; the input reads as it did. -/
def vt52GraphsSpec : ChangeSpec := { name := "vt52Graphs", fn := fun _ => fun
  | [d1, d2] => { results := [.lit (.bool true)], args := [d1, d2] }
  | _ => none }
def vt52GraphsRow : OpenClaim := { program := "ytcbjgpkbfmmdpaadoor", sum := "cdb4817064d0e84104ccf2a1438bc6804cb3b043b445ef474be8f2f59524ecf9", func := "vizard/vizardlaw12.Vt52Graphs", spec := "vt52Graphs", unfollowed := true, recurses := true, named := ["vizard/screen.Blank"], apart := false, laid := [("vizard/screen.Blank", laid_vizard_screen_Blank)] }
def Vt52GraphsSaid : Prop := vt52GraphsRow.holds Tryd.pinned (OpenSpec.ofChange vt52GraphsSpec)

/-- ITS FALSE NEIGHBOUR: 'it returns false'. Refute it at one input. -/
def vt52GraphsWrong : ChangeSpec := { name := "vt52Graphs", fn := fun _ => fun
  | [d1, d2] => { results := [.lit (.bool false)], args := [d1, d2] }
  | _ => none }
def Vt52GraphsWrongFalsely : Prop := vt52GraphsRow.holds Tryd.pinned (OpenSpec.ofChange vt52GraphsWrong)

/-- 'vizardlaw12.Vt52Bounds': WHATEVER THE INPUT: true; the input reads as it did. -/
def vt52BoundsSpec : ChangeSpec := { name := "vt52Bounds", fn := fun _ => fun
  | [d1, d2, d3] => { results := [.lit (.bool true)], args := [d1, d2, d3] }
  | _ => none }
def vt52BoundsRow : OpenClaim := { program := "ytcbjgpkbfmmdpaadoor", sum := "cdb4817064d0e84104ccf2a1438bc6804cb3b043b445ef474be8f2f59524ecf9", func := "vizard/vizardlaw12.Vt52Bounds", spec := "vt52Bounds", unfollowed := true, recurses := true, named := ["vizard/screen.Blank"], apart := false, laid := [("vizard/screen.Blank", laid_vizard_screen_Blank)] }
def Vt52BoundsSaid : Prop := vt52BoundsRow.holds Tryd.pinned (OpenSpec.ofChange vt52BoundsSpec)

/-- ITS FALSE NEIGHBOUR: 'it returns false'. Refute it at one input. -/
def vt52BoundsWrong : ChangeSpec := { name := "vt52Bounds", fn := fun _ => fun
  | [d1, d2, d3] => { results := [.lit (.bool false)], args := [d1, d2, d3] }
  | _ => none }
def Vt52BoundsWrongFalsely : Prop := vt52BoundsRow.holds Tryd.pinned (OpenSpec.ofChange vt52BoundsWrong)

/-- 'vizardlaw12.Vt52Nil': WHATEVER THE INPUT: true; the input reads as it did. -/
def vt52NilSpec : ChangeSpec := { name := "vt52Nil", fn := fun _ => fun
  | [d] => { results := [.lit (.bool true)], args := [d] }
  | _ => none }
def vt52NilRow : OpenClaim := { program := "ytcbjgpkbfmmdpaadoor", sum := "cdb4817064d0e84104ccf2a1438bc6804cb3b043b445ef474be8f2f59524ecf9", func := "vizard/vizardlaw12.Vt52Nil", spec := "vt52Nil", unfollowed := true, recurses := true, named := ["vizard/screen.Blank"], apart := false, laid := [("vizard/screen.Blank", laid_vizard_screen_Blank)] }
def Vt52NilSaid : Prop := vt52NilRow.holds Tryd.pinned (OpenSpec.ofChange vt52NilSpec)

/-- ITS FALSE NEIGHBOUR: 'it returns false'. Refute it at one input. -/
def vt52NilWrong : ChangeSpec := { name := "vt52Nil", fn := fun _ => fun
  | [d] => { results := [.lit (.bool false)], args := [d] }
  | _ => none }
def Vt52NilWrongFalsely : Prop := vt52NilRow.holds Tryd.pinned (OpenSpec.ofChange vt52NilWrong)

/- THE SECOND FORM. 'bulk': how many values and letters a reading holds, each counted each time it is reached (what is shared counts as often as it is met; a slice's spare places count too). A statement '..UptoSaid' is the law's where the arguments, and the package variables that the reading takes, are together of bulk at most 1048576: NARROWER than '..Said'. Prove '..Said' where nothing that the law and all that it calls make is longer than what came in: it says more and counts as full. Else prove '..UptoSaid'. A law counts once. -/
mutual
def uptoBulk {H : Type} : DataW H → Nat
  | .lit (.string bytes) => bytes.length + 1
  | .lit _ => 1
  | .nil => 1
  | .ptr d => uptoBulk d + 1
  | .slice elems spare => uptoBulkAll elems + uptoBulkAll spare + 1
  | .agg parts => uptoBulkAll parts + 1
  | .iface _ d => uptoBulk d + 1
  | .map entries => uptoBulkEntries entries + 1
  | .held _ => 1
def uptoBulkAll {H : Type} : List (DataW H) → Nat
  | [] => 0
  | d :: r => uptoBulk d + uptoBulkAll r
def uptoBulkEntries {H : Type} : List (Lit × DataW H) → Nat
  | [] => 0
  | x :: r => uptoBulkEntry x + uptoBulkEntries r
def uptoBulkEntry {H : Type} : Lit × DataW H → Nat
  | (.string bytes, d) => bytes.length + uptoBulk d + 1
  | (_, d) => uptoBulk d + 1
 end
def uptoSmall : (H : Type) → List (DataW H) → Bool := fun _ ds => decide (uptoBulkAll ds ≤ 1048576)
def OpenSpec.upto (s : _root_.Go.ChangeSpec) : _root_.Go.OpenSpec := { _root_.Go.OpenSpec.ofChange s with cond := some uptoSmall }

/-- 'vizardlaw12.Vt52Writes', WHERE WHAT IT READS IS OF BULK AT MOST 1048576: true; the input reads as it did. -/
def vt52WritesUptoRow : OpenClaim := { program := "ytcbjgpkbfmmdpaadoor", sum := "cdb4817064d0e84104ccf2a1438bc6804cb3b043b445ef474be8f2f59524ecf9", func := "vizard/vizardlaw12.Vt52Writes", spec := "vt52Writes", unfollowed := true, recurses := true, named := ["vizard/screen.Blank"], apart := false, laid := [("vizard/screen.Blank", laid_vizard_screen_Blank)], narrowed := true }
def Vt52WritesUptoSaid : Prop := vt52WritesUptoRow.holds Tryd.pinned (OpenSpec.upto vt52WritesSpec)

/-- 'vizardlaw12.Vt52Moves', WHERE WHAT IT READS IS OF BULK AT MOST 1048576: true; the input reads as it did. -/
def vt52MovesUptoRow : OpenClaim := { program := "ytcbjgpkbfmmdpaadoor", sum := "cdb4817064d0e84104ccf2a1438bc6804cb3b043b445ef474be8f2f59524ecf9", func := "vizard/vizardlaw12.Vt52Moves", spec := "vt52Moves", unfollowed := true, recurses := true, named := ["vizard/screen.Blank"], apart := false, laid := [("vizard/screen.Blank", laid_vizard_screen_Blank)], narrowed := true }
def Vt52MovesUptoSaid : Prop := vt52MovesUptoRow.holds Tryd.pinned (OpenSpec.upto vt52MovesSpec)

/-- 'vizardlaw12.Vt52Graphs', WHERE WHAT IT READS IS OF BULK AT MOST 1048576: true; the input reads as it did. -/
def vt52GraphsUptoRow : OpenClaim := { program := "ytcbjgpkbfmmdpaadoor", sum := "cdb4817064d0e84104ccf2a1438bc6804cb3b043b445ef474be8f2f59524ecf9", func := "vizard/vizardlaw12.Vt52Graphs", spec := "vt52Graphs", unfollowed := true, recurses := true, named := ["vizard/screen.Blank"], apart := false, laid := [("vizard/screen.Blank", laid_vizard_screen_Blank)], narrowed := true }
def Vt52GraphsUptoSaid : Prop := vt52GraphsUptoRow.holds Tryd.pinned (OpenSpec.upto vt52GraphsSpec)

/-- 'vizardlaw12.Vt52Bounds', WHERE WHAT IT READS IS OF BULK AT MOST 1048576: true; the input reads as it did. -/
def vt52BoundsUptoRow : OpenClaim := { program := "ytcbjgpkbfmmdpaadoor", sum := "cdb4817064d0e84104ccf2a1438bc6804cb3b043b445ef474be8f2f59524ecf9", func := "vizard/vizardlaw12.Vt52Bounds", spec := "vt52Bounds", unfollowed := true, recurses := true, named := ["vizard/screen.Blank"], apart := false, laid := [("vizard/screen.Blank", laid_vizard_screen_Blank)], narrowed := true }
def Vt52BoundsUptoSaid : Prop := vt52BoundsUptoRow.holds Tryd.pinned (OpenSpec.upto vt52BoundsSpec)

/-- 'vizardlaw12.Vt52Nil', WHERE WHAT IT READS IS OF BULK AT MOST 1048576: true; the input reads as it did. -/
def vt52NilUptoRow : OpenClaim := { program := "ytcbjgpkbfmmdpaadoor", sum := "cdb4817064d0e84104ccf2a1438bc6804cb3b043b445ef474be8f2f59524ecf9", func := "vizard/vizardlaw12.Vt52Nil", spec := "vt52Nil", unfollowed := true, recurses := true, named := ["vizard/screen.Blank"], apart := false, laid := [("vizard/screen.Blank", laid_vizard_screen_Blank)], narrowed := true }
def Vt52NilUptoSaid : Prop := vt52NilUptoRow.holds Tryd.pinned (OpenSpec.upto vt52NilSpec)

end Rows
end Go.Proofs.YtcbjgpkbfmmdpaaDoor
