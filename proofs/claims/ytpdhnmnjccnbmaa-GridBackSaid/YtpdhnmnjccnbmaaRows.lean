/-
  No cell of these rows narrows 'for every input' (looked for: loops, veiled, ifaces, maps, wideKeys, modest, calm, conditions, laid).
  DERIVED. THE GIVEN ROWS OF THIS SEAT. 7 by the template 'for every input the law returns true; each argument reads behind the call as it read before'; 0 by the template 'total and deterministic' (their statements: YtpdhnmnjccnbmaaTotals.lean).
  GIVEN WITH THE SEED: the statements are not yours to turn. If you find one false, say at which input.
  Laid BY PROGRAM, IN A SANDBOX (cutbox-rows.mjs): the forced cells as the released guide's own fill.sh prints them over the translation bbb3fca63af844c3… (all of the seat's roots in one cut). By AI agents, Wed Nov 11 2026. No macro, syntax, notation, axiom, sorry.
-/
import Derived.Test.YtpdhnmnjccnbmaaChecked
import GoSem.Claim
import GoSem.ClaimJoined
import GoSem.ClaimMapViews
import Derived.JoinedTies
import Derived.KernelRfl
namespace Go.Proofs.Ytpdhnmnjccnbmaa
/- THE CELL 'sum', in the pinned program and in every row, IS THE sha256 OF THE DUMP (.gsa) THAT YtpdhnmnjccnbmaaProg.lean LOADS. Nothing in Lean hashes anything: it is a label: what it is worth is what the hold of that sum in a sandbox is worth. -/
noncomputable def Try.pinned : Pinned := { name := "ytpdhnmnjccnbmaa", sum := "bbb3fca63af844c390cfe1d937b3062bf818a3d56155a95cd1f6c3be11e60203", checked := Try.checked }
namespace Rows
def none {H : Type} : Left H := { results := [], args := [] }

/-- 'vizardlaw01.GridPlays': WHATEVER THE INPUT: true; the input reads as it did. -/
def gridPlaysSpec : ChangeSpec := { name := "gridPlays", fn := fun _ => fun
  | [d1, d2, d3] => { results := [.lit (.bool true)], args := [d1, d2, d3] }
  | _ => none }
def gridPlaysRow : OpenClaim := { program := "ytpdhnmnjccnbmaa", sum := "bbb3fca63af844c390cfe1d937b3062bf818a3d56155a95cd1f6c3be11e60203", func := "vizard/vizardlaw01.GridPlays", spec := "gridPlays", unfollowed := true, recurses := true, apart := false }
def GridPlaysSaid : Prop := gridPlaysRow.holds Try.pinned (OpenSpec.ofChange gridPlaysSpec)

/-- ITS FALSE NEIGHBOUR: 'it returns false'. Refute it at one input. -/
def gridPlaysWrong : ChangeSpec := { name := "gridPlays", fn := fun _ => fun
  | [d1, d2, d3] => { results := [.lit (.bool false)], args := [d1, d2, d3] }
  | _ => none }
def GridPlaysWrongFalsely : Prop := gridPlaysRow.holds Try.pinned (OpenSpec.ofChange gridPlaysWrong)

/-- 'vizardlaw01.GridNil': WHATEVER THE INPUT: true; the input reads as it did. -/
def gridNilSpec : ChangeSpec := { name := "gridNil", fn := fun _ => fun
  | [d] => { results := [.lit (.bool true)], args := [d] }
  | _ => none }
def gridNilRow : OpenClaim := { program := "ytpdhnmnjccnbmaa", sum := "bbb3fca63af844c390cfe1d937b3062bf818a3d56155a95cd1f6c3be11e60203", func := "vizard/vizardlaw01.GridNil", spec := "gridNil", unfollowed := true, recurses := true, apart := false }
def GridNilSaid : Prop := gridNilRow.holds Try.pinned (OpenSpec.ofChange gridNilSpec)

/-- ITS FALSE NEIGHBOUR: 'it returns false'. Refute it at one input. -/
def gridNilWrong : ChangeSpec := { name := "gridNil", fn := fun _ => fun
  | [d] => { results := [.lit (.bool false)], args := [d] }
  | _ => none }
def GridNilWrongFalsely : Prop := gridNilRow.holds Try.pinned (OpenSpec.ofChange gridNilWrong)

/-- 'vizardlaw01.GridFills': WHATEVER THE INPUT: true; the input reads as it did. -/
def gridFillsSpec : ChangeSpec := { name := "gridFills", fn := fun _ => fun
  | [d1, d2, d3] => { results := [.lit (.bool true)], args := [d1, d2, d3] }
  | _ => none }
def gridFillsRow : OpenClaim := { program := "ytpdhnmnjccnbmaa", sum := "bbb3fca63af844c390cfe1d937b3062bf818a3d56155a95cd1f6c3be11e60203", func := "vizard/vizardlaw01.GridFills", spec := "gridFills", unfollowed := true, recurses := true, apart := false }
def GridFillsSaid : Prop := gridFillsRow.holds Try.pinned (OpenSpec.ofChange gridFillsSpec)

/-- ITS FALSE NEIGHBOUR: 'it returns false'. Refute it at one input. -/
def gridFillsWrong : ChangeSpec := { name := "gridFills", fn := fun _ => fun
  | [d1, d2, d3] => { results := [.lit (.bool false)], args := [d1, d2, d3] }
  | _ => none }
def GridFillsWrongFalsely : Prop := gridFillsRow.holds Try.pinned (OpenSpec.ofChange gridFillsWrong)

/-- 'vizardlaw01.GridCopies': WHATEVER THE INPUT: true; the input reads as it did. -/
def gridCopiesSpec : ChangeSpec := { name := "gridCopies", fn := fun _ => fun
  | [d1, d2] => { results := [.lit (.bool true)], args := [d1, d2] }
  | _ => none }
def gridCopiesRow : OpenClaim := { program := "ytpdhnmnjccnbmaa", sum := "bbb3fca63af844c390cfe1d937b3062bf818a3d56155a95cd1f6c3be11e60203", func := "vizard/vizardlaw01.GridCopies", spec := "gridCopies", unfollowed := true, recurses := true, apart := false }
def GridCopiesSaid : Prop := gridCopiesRow.holds Try.pinned (OpenSpec.ofChange gridCopiesSpec)

/-- ITS FALSE NEIGHBOUR: 'it returns false'. Refute it at one input. -/
def gridCopiesWrong : ChangeSpec := { name := "gridCopies", fn := fun _ => fun
  | [d1, d2] => { results := [.lit (.bool false)], args := [d1, d2] }
  | _ => none }
def GridCopiesWrongFalsely : Prop := gridCopiesRow.holds Try.pinned (OpenSpec.ofChange gridCopiesWrong)

/-- 'vizardlaw01.GridSets': WHATEVER THE INPUT: true; the input reads as it did. -/
def gridSetsSpec : ChangeSpec := { name := "gridSets", fn := fun _ => fun
  | [d1, d2, d3] => { results := [.lit (.bool true)], args := [d1, d2, d3] }
  | _ => none }
def gridSetsRow : OpenClaim := { program := "ytpdhnmnjccnbmaa", sum := "bbb3fca63af844c390cfe1d937b3062bf818a3d56155a95cd1f6c3be11e60203", func := "vizard/vizardlaw01.GridSets", spec := "gridSets", unfollowed := true, recurses := true, apart := false }
def GridSetsSaid : Prop := gridSetsRow.holds Try.pinned (OpenSpec.ofChange gridSetsSpec)

/-- ITS FALSE NEIGHBOUR: 'it returns false'. Refute it at one input. -/
def gridSetsWrong : ChangeSpec := { name := "gridSets", fn := fun _ => fun
  | [d1, d2, d3] => { results := [.lit (.bool false)], args := [d1, d2, d3] }
  | _ => none }
def GridSetsWrongFalsely : Prop := gridSetsRow.holds Try.pinned (OpenSpec.ofChange gridSetsWrong)

/-- 'vizardlaw01.GridBack': WHATEVER THE INPUT: true; the input reads as it did. -/
def gridBackSpec : ChangeSpec := { name := "gridBack", fn := fun _ => fun
  | [d1, d2, d3] => { results := [.lit (.bool true)], args := [d1, d2, d3] }
  | _ => none }
def gridBackRow : OpenClaim := { program := "ytpdhnmnjccnbmaa", sum := "bbb3fca63af844c390cfe1d937b3062bf818a3d56155a95cd1f6c3be11e60203", func := "vizard/vizardlaw01.GridBack", spec := "gridBack", unfollowed := true, recurses := true, apart := false }
def GridBackSaid : Prop := gridBackRow.holds Try.pinned (OpenSpec.ofChange gridBackSpec)

/-- ITS FALSE NEIGHBOUR: 'it returns false'. Refute it at one input. -/
def gridBackWrong : ChangeSpec := { name := "gridBack", fn := fun _ => fun
  | [d1, d2, d3] => { results := [.lit (.bool false)], args := [d1, d2, d3] }
  | _ => none }
def GridBackWrongFalsely : Prop := gridBackRow.holds Try.pinned (OpenSpec.ofChange gridBackWrong)

/-- 'vizardlaw01.GridSlides': WHATEVER THE INPUT: true; the input reads as it did. -/
def gridSlidesSpec : ChangeSpec := { name := "gridSlides", fn := fun _ => fun
  | [d1, d2, d3] => { results := [.lit (.bool true)], args := [d1, d2, d3] }
  | _ => none }
def gridSlidesRow : OpenClaim := { program := "ytpdhnmnjccnbmaa", sum := "bbb3fca63af844c390cfe1d937b3062bf818a3d56155a95cd1f6c3be11e60203", func := "vizard/vizardlaw01.GridSlides", spec := "gridSlides", unfollowed := true, recurses := true, apart := false }
def GridSlidesSaid : Prop := gridSlidesRow.holds Try.pinned (OpenSpec.ofChange gridSlidesSpec)

/-- ITS FALSE NEIGHBOUR: 'it returns false'. Refute it at one input. -/
def gridSlidesWrong : ChangeSpec := { name := "gridSlides", fn := fun _ => fun
  | [d1, d2, d3] => { results := [.lit (.bool false)], args := [d1, d2, d3] }
  | _ => none }
def GridSlidesWrongFalsely : Prop := gridSlidesRow.holds Try.pinned (OpenSpec.ofChange gridSlidesWrong)

/- THE SECOND FORM. 'bulk': how many values and letters a reading holds, each counted each time it is reached (what is shared counts as often as it is met; a slice's spare places count too). A statement '..UptoSaid' is the law's where the arguments, and the package variables that the reading takes, are together of bulk at most 1048576: NARROWER than '..Said'. Prove '..Said' where nothing that the law and all that it calls make is longer than what came in: it says more and counts as full. Else prove '..UptoSaid'. A law counts once. -/
mutual
def uptoBulk {H : Type} : DataW H → Nat
  | .lit (.string bytes) => bytes.length + 1
  | .lit _ => 1
  | .nil => 1
  | .ptr d => uptoBulk d + 1
  | .slice elems spare => uptoBulkAll elems + uptoBulkAll spare + 1
  | .agg parts => uptoBulkAll parts + 1
  | .iface _ d => uptoBulk d + 1
  | .map entries => uptoBulkEntries entries + 1
  | .held _ => 1
def uptoBulkAll {H : Type} : List (DataW H) → Nat
  | [] => 0
  | d :: r => uptoBulk d + uptoBulkAll r
def uptoBulkEntries {H : Type} : List (Lit × DataW H) → Nat
  | [] => 0
  | x :: r => uptoBulkEntry x + uptoBulkEntries r
def uptoBulkEntry {H : Type} : Lit × DataW H → Nat
  | (.string bytes, d) => bytes.length + uptoBulk d + 1
  | (_, d) => uptoBulk d + 1
 end
def uptoSmall : (H : Type) → List (DataW H) → Bool := fun _ ds => decide (uptoBulkAll ds ≤ 1048576)
def OpenSpec.upto (s : _root_.Go.ChangeSpec) : _root_.Go.OpenSpec := { _root_.Go.OpenSpec.ofChange s with cond := some uptoSmall }

/-- 'vizardlaw01.GridPlays', WHERE WHAT IT READS IS OF BULK AT MOST 1048576: true; the input reads as it did. -/
def gridPlaysUptoRow : OpenClaim := { program := "ytpdhnmnjccnbmaa", sum := "bbb3fca63af844c390cfe1d937b3062bf818a3d56155a95cd1f6c3be11e60203", func := "vizard/vizardlaw01.GridPlays", spec := "gridPlays", unfollowed := true, recurses := true, apart := false, narrowed := true }
def GridPlaysUptoSaid : Prop := gridPlaysUptoRow.holds Try.pinned (OpenSpec.upto gridPlaysSpec)

/-- 'vizardlaw01.GridNil', WHERE WHAT IT READS IS OF BULK AT MOST 1048576: true; the input reads as it did. -/
def gridNilUptoRow : OpenClaim := { program := "ytpdhnmnjccnbmaa", sum := "bbb3fca63af844c390cfe1d937b3062bf818a3d56155a95cd1f6c3be11e60203", func := "vizard/vizardlaw01.GridNil", spec := "gridNil", unfollowed := true, recurses := true, apart := false, narrowed := true }
def GridNilUptoSaid : Prop := gridNilUptoRow.holds Try.pinned (OpenSpec.upto gridNilSpec)

/-- 'vizardlaw01.GridFills', WHERE WHAT IT READS IS OF BULK AT MOST 1048576: true; the input reads as it did. -/
def gridFillsUptoRow : OpenClaim := { program := "ytpdhnmnjccnbmaa", sum := "bbb3fca63af844c390cfe1d937b3062bf818a3d56155a95cd1f6c3be11e60203", func := "vizard/vizardlaw01.GridFills", spec := "gridFills", unfollowed := true, recurses := true, apart := false, narrowed := true }
def GridFillsUptoSaid : Prop := gridFillsUptoRow.holds Try.pinned (OpenSpec.upto gridFillsSpec)

/-- 'vizardlaw01.GridCopies', WHERE WHAT IT READS IS OF BULK AT MOST 1048576: true; the input reads as it did. -/
def gridCopiesUptoRow : OpenClaim := { program := "ytpdhnmnjccnbmaa", sum := "bbb3fca63af844c390cfe1d937b3062bf818a3d56155a95cd1f6c3be11e60203", func := "vizard/vizardlaw01.GridCopies", spec := "gridCopies", unfollowed := true, recurses := true, apart := false, narrowed := true }
def GridCopiesUptoSaid : Prop := gridCopiesUptoRow.holds Try.pinned (OpenSpec.upto gridCopiesSpec)

/-- 'vizardlaw01.GridSets', WHERE WHAT IT READS IS OF BULK AT MOST 1048576: true; the input reads as it did. -/
def gridSetsUptoRow : OpenClaim := { program := "ytpdhnmnjccnbmaa", sum := "bbb3fca63af844c390cfe1d937b3062bf818a3d56155a95cd1f6c3be11e60203", func := "vizard/vizardlaw01.GridSets", spec := "gridSets", unfollowed := true, recurses := true, apart := false, narrowed := true }
def GridSetsUptoSaid : Prop := gridSetsUptoRow.holds Try.pinned (OpenSpec.upto gridSetsSpec)

/-- 'vizardlaw01.GridBack', WHERE WHAT IT READS IS OF BULK AT MOST 1048576: true; the input reads as it did. -/
def gridBackUptoRow : OpenClaim := { program := "ytpdhnmnjccnbmaa", sum := "bbb3fca63af844c390cfe1d937b3062bf818a3d56155a95cd1f6c3be11e60203", func := "vizard/vizardlaw01.GridBack", spec := "gridBack", unfollowed := true, recurses := true, apart := false, narrowed := true }
def GridBackUptoSaid : Prop := gridBackUptoRow.holds Try.pinned (OpenSpec.upto gridBackSpec)

/-- 'vizardlaw01.GridSlides', WHERE WHAT IT READS IS OF BULK AT MOST 1048576: true; the input reads as it did. -/
def gridSlidesUptoRow : OpenClaim := { program := "ytpdhnmnjccnbmaa", sum := "bbb3fca63af844c390cfe1d937b3062bf818a3d56155a95cd1f6c3be11e60203", func := "vizard/vizardlaw01.GridSlides", spec := "gridSlides", unfollowed := true, recurses := true, apart := false, narrowed := true }
def GridSlidesUptoSaid : Prop := gridSlidesUptoRow.holds Try.pinned (OpenSpec.upto gridSlidesSpec)

end Rows
end Go.Proofs.Ytpdhnmnjccnbmaa
