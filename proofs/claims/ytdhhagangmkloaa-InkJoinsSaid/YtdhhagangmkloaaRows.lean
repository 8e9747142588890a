/-
  No cell of these rows narrows 'for every input' (looked for: loops, veiled, ifaces, maps, wideKeys, modest, calm, conditions, laid).
  DERIVED. THE GIVEN ROWS OF THIS SEAT. 18 by the template 'for every input the law returns true; each argument reads behind the call as it read before'; 0 by the template 'total and deterministic' (their statements: YtdhhagangmkloaaTotals.lean).
  GIVEN WITH THE SEED: the statements are not yours to turn. If you find one false, say at which input.
  Laid BY PROGRAM, IN A SANDBOX (cutbox-rows.mjs): the forced cells as the released guide's own fill.sh prints them over the translation 1b44181262d7f2ac… (all of the seat's roots in one cut). By AI agents, Wed Nov 11 2026. No macro, syntax, notation, axiom, sorry.
-/
import Derived.Test.YtdhhagangmkloaaChecked
import GoSem.Claim
import GoSem.ClaimJoined
import GoSem.ClaimMapViews
import Derived.JoinedTies
import Derived.KernelRfl
namespace Go.Proofs.Ytdhhagangmkloaa
/- THE CELL 'sum', in the pinned program and in every row, IS THE sha256 OF THE DUMP (.gsa) THAT YtdhhagangmkloaaProg.lean LOADS. Nothing in Lean hashes anything: it is a label: what it is worth is what the hold of that sum in a sandbox is worth. -/
noncomputable def Try.pinned : Pinned := { name := "ytdhhagangmkloaa", sum := "1b44181262d7f2ac0ef8520aef6633f3c5610395008f90bdf8cbb85e0806c093", checked := Try.checked }
namespace Rows
def none {H : Type} : Left H := { results := [], args := [] }

/-- 'vizardlaw07.WipePlays': WHATEVER THE INPUT: true; the input reads as it did. -/
def wipePlaysSpec : ChangeSpec := { name := "wipePlays", fn := fun _ => fun
  | [d1, d2] => { results := [.lit (.bool true)], args := [d1, d2] }
  | _ => none }
def wipePlaysRow : OpenClaim := { program := "ytdhhagangmkloaa", sum := "1b44181262d7f2ac0ef8520aef6633f3c5610395008f90bdf8cbb85e0806c093", func := "vizard/vizardlaw07.WipePlays", spec := "wipePlays", unfollowed := true, recurses := true, apart := false }
def WipePlaysSaid : Prop := wipePlaysRow.holds Try.pinned (OpenSpec.ofChange wipePlaysSpec)

/-- ITS FALSE NEIGHBOUR: 'it returns false'. Refute it at one input. -/
def wipePlaysWrong : ChangeSpec := { name := "wipePlays", fn := fun _ => fun
  | [d1, d2] => { results := [.lit (.bool false)], args := [d1, d2] }
  | _ => none }
def WipePlaysWrongFalsely : Prop := wipePlaysRow.holds Try.pinned (OpenSpec.ofChange wipePlaysWrong)

/-- 'vizardlaw07.WipeNil': WHATEVER THE INPUT: true; the input reads as it did. -/
def wipeNilSpec : ChangeSpec := { name := "wipeNil", fn := fun _ => fun
  | [d] => { results := [.lit (.bool true)], args := [d] }
  | _ => none }
def wipeNilRow : OpenClaim := { program := "ytdhhagangmkloaa", sum := "1b44181262d7f2ac0ef8520aef6633f3c5610395008f90bdf8cbb85e0806c093", func := "vizard/vizardlaw07.WipeNil", spec := "wipeNil", unfollowed := true, recurses := true, apart := false }
def WipeNilSaid : Prop := wipeNilRow.holds Try.pinned (OpenSpec.ofChange wipeNilSpec)

/-- ITS FALSE NEIGHBOUR: 'it returns false'. Refute it at one input. -/
def wipeNilWrong : ChangeSpec := { name := "wipeNil", fn := fun _ => fun
  | [d] => { results := [.lit (.bool false)], args := [d] }
  | _ => none }
def WipeNilWrongFalsely : Prop := wipeNilRow.holds Try.pinned (OpenSpec.ofChange wipeNilWrong)

/-- 'vizardlaw06.ShiftChars': WHATEVER THE INPUT: true; the input reads as it did. -/
def shiftCharsSpec : ChangeSpec := { name := "shiftChars", fn := fun _ => fun
  | [d1, d2] => { results := [.lit (.bool true)], args := [d1, d2] }
  | _ => none }
def shiftCharsRow : OpenClaim := { program := "ytdhhagangmkloaa", sum := "1b44181262d7f2ac0ef8520aef6633f3c5610395008f90bdf8cbb85e0806c093", func := "vizard/vizardlaw06.ShiftChars", spec := "shiftChars", unfollowed := true, recurses := true, apart := false }
def ShiftCharsSaid : Prop := shiftCharsRow.holds Try.pinned (OpenSpec.ofChange shiftCharsSpec)

/-- ITS FALSE NEIGHBOUR: 'it returns false'. Refute it at one input. -/
def shiftCharsWrong : ChangeSpec := { name := "shiftChars", fn := fun _ => fun
  | [d1, d2] => { results := [.lit (.bool false)], args := [d1, d2] }
  | _ => none }
def ShiftCharsWrongFalsely : Prop := shiftCharsRow.holds Try.pinned (OpenSpec.ofChange shiftCharsWrong)

/-- 'vizardlaw07.WipeParts': WHATEVER THE INPUT: true; the input reads as it did. -/
def wipePartsSpec : ChangeSpec := { name := "wipeParts", fn := fun _ => fun
  | [d1, d2, d3] => { results := [.lit (.bool true)], args := [d1, d2, d3] }
  | _ => none }
def wipePartsRow : OpenClaim := { program := "ytdhhagangmkloaa", sum := "1b44181262d7f2ac0ef8520aef6633f3c5610395008f90bdf8cbb85e0806c093", func := "vizard/vizardlaw07.WipeParts", spec := "wipeParts", unfollowed := true, recurses := true, apart := false }
def WipePartsSaid : Prop := wipePartsRow.holds Try.pinned (OpenSpec.ofChange wipePartsSpec)

/-- ITS FALSE NEIGHBOUR: 'it returns false'. Refute it at one input. -/
def wipePartsWrong : ChangeSpec := { name := "wipeParts", fn := fun _ => fun
  | [d1, d2, d3] => { results := [.lit (.bool false)], args := [d1, d2, d3] }
  | _ => none }
def WipePartsWrongFalsely : Prop := wipePartsRow.holds Try.pinned (OpenSpec.ofChange wipePartsWrong)

/-- 'vizardlaw07.WipeMeets': WHATEVER THE INPUT: true; the input reads as it did. -/
def wipeMeetsSpec : ChangeSpec := { name := "wipeMeets", fn := fun _ => fun
  | [d1, d2] => { results := [.lit (.bool true)], args := [d1, d2] }
  | _ => none }
def wipeMeetsRow : OpenClaim := { program := "ytdhhagangmkloaa", sum := "1b44181262d7f2ac0ef8520aef6633f3c5610395008f90bdf8cbb85e0806c093", func := "vizard/vizardlaw07.WipeMeets", spec := "wipeMeets", unfollowed := true, recurses := true, apart := false }
def WipeMeetsSaid : Prop := wipeMeetsRow.holds Try.pinned (OpenSpec.ofChange wipeMeetsSpec)

/-- ITS FALSE NEIGHBOUR: 'it returns false'. Refute it at one input. -/
def wipeMeetsWrong : ChangeSpec := { name := "wipeMeets", fn := fun _ => fun
  | [d1, d2] => { results := [.lit (.bool false)], args := [d1, d2] }
  | _ => none }
def WipeMeetsWrongFalsely : Prop := wipeMeetsRow.holds Try.pinned (OpenSpec.ofChange wipeMeetsWrong)

/-- 'vizardlaw07.WipeGuards': WHATEVER THE INPUT: true; the input reads as it did. -/
def wipeGuardsSpec : ChangeSpec := { name := "wipeGuards", fn := fun _ => fun
  | [d1, d2] => { results := [.lit (.bool true)], args := [d1, d2] }
  | _ => none }
def wipeGuardsRow : OpenClaim := { program := "ytdhhagangmkloaa", sum := "1b44181262d7f2ac0ef8520aef6633f3c5610395008f90bdf8cbb85e0806c093", func := "vizard/vizardlaw07.WipeGuards", spec := "wipeGuards", unfollowed := true, recurses := true, apart := false }
def WipeGuardsSaid : Prop := wipeGuardsRow.holds Try.pinned (OpenSpec.ofChange wipeGuardsSpec)

/-- ITS FALSE NEIGHBOUR: 'it returns false'. Refute it at one input. -/
def wipeGuardsWrong : ChangeSpec := { name := "wipeGuards", fn := fun _ => fun
  | [d1, d2] => { results := [.lit (.bool false)], args := [d1, d2] }
  | _ => none }
def WipeGuardsWrongFalsely : Prop := wipeGuardsRow.holds Try.pinned (OpenSpec.ofChange wipeGuardsWrong)

/-- 'vizardlaw08.InkPuts': WHATEVER THE INPUT: true; the input reads as it did. -/
def inkPutsSpec : ChangeSpec := { name := "inkPuts", fn := fun _ => fun
  | [d1, d2] => { results := [.lit (.bool true)], args := [d1, d2] }
  | _ => none }
def inkPutsRow : OpenClaim := { program := "ytdhhagangmkloaa", sum := "1b44181262d7f2ac0ef8520aef6633f3c5610395008f90bdf8cbb85e0806c093", func := "vizard/vizardlaw08.InkPuts", spec := "inkPuts", unfollowed := true, recurses := true, apart := false }
def InkPutsSaid : Prop := inkPutsRow.holds Try.pinned (OpenSpec.ofChange inkPutsSpec)

/-- ITS FALSE NEIGHBOUR: 'it returns false'. Refute it at one input. -/
def inkPutsWrong : ChangeSpec := { name := "inkPuts", fn := fun _ => fun
  | [d1, d2] => { results := [.lit (.bool false)], args := [d1, d2] }
  | _ => none }
def InkPutsWrongFalsely : Prop := inkPutsRow.holds Try.pinned (OpenSpec.ofChange inkPutsWrong)

/-- 'vizardlaw07.WipeApart': WHATEVER THE INPUT: true; the input reads as it did. -/
def wipeApartSpec : ChangeSpec := { name := "wipeApart", fn := fun _ => fun
  | [d1, d2, d3] => { results := [.lit (.bool true)], args := [d1, d2, d3] }
  | _ => none }
def wipeApartRow : OpenClaim := { program := "ytdhhagangmkloaa", sum := "1b44181262d7f2ac0ef8520aef6633f3c5610395008f90bdf8cbb85e0806c093", func := "vizard/vizardlaw07.WipeApart", spec := "wipeApart", unfollowed := true, recurses := true, apart := false }
def WipeApartSaid : Prop := wipeApartRow.holds Try.pinned (OpenSpec.ofChange wipeApartSpec)

/-- ITS FALSE NEIGHBOUR: 'it returns false'. Refute it at one input. -/
def wipeApartWrong : ChangeSpec := { name := "wipeApart", fn := fun _ => fun
  | [d1, d2, d3] => { results := [.lit (.bool false)], args := [d1, d2, d3] }
  | _ => none }
def WipeApartWrongFalsely : Prop := wipeApartRow.holds Try.pinned (OpenSpec.ofChange wipeApartWrong)

/-- 'vizardlaw06.ShiftLines': WHATEVER THE INPUT: true; the input reads as it did. -/
def shiftLinesSpec : ChangeSpec := { name := "shiftLines", fn := fun _ => fun
  | [d1, d2] => { results := [.lit (.bool true)], args := [d1, d2] }
  | _ => none }
def shiftLinesRow : OpenClaim := { program := "ytdhhagangmkloaa", sum := "1b44181262d7f2ac0ef8520aef6633f3c5610395008f90bdf8cbb85e0806c093", func := "vizard/vizardlaw06.ShiftLines", spec := "shiftLines", unfollowed := true, recurses := true, apart := false }
def ShiftLinesSaid : Prop := shiftLinesRow.holds Try.pinned (OpenSpec.ofChange shiftLinesSpec)

/-- ITS FALSE NEIGHBOUR: 'it returns false'. Refute it at one input. -/
def shiftLinesWrong : ChangeSpec := { name := "shiftLines", fn := fun _ => fun
  | [d1, d2] => { results := [.lit (.bool false)], args := [d1, d2] }
  | _ => none }
def ShiftLinesWrongFalsely : Prop := shiftLinesRow.holds Try.pinned (OpenSpec.ofChange shiftLinesWrong)

/-- 'vizardlaw06.ShiftNil': WHATEVER THE INPUT: true; the input reads as it did. -/
def shiftNilSpec : ChangeSpec := { name := "shiftNil", fn := fun _ => fun
  | [d1, d2] => { results := [.lit (.bool true)], args := [d1, d2] }
  | _ => none }
def shiftNilRow : OpenClaim := { program := "ytdhhagangmkloaa", sum := "1b44181262d7f2ac0ef8520aef6633f3c5610395008f90bdf8cbb85e0806c093", func := "vizard/vizardlaw06.ShiftNil", spec := "shiftNil", unfollowed := true, recurses := true, apart := false }
def ShiftNilSaid : Prop := shiftNilRow.holds Try.pinned (OpenSpec.ofChange shiftNilSpec)

/-- ITS FALSE NEIGHBOUR: 'it returns false'. Refute it at one input. -/
def shiftNilWrong : ChangeSpec := { name := "shiftNil", fn := fun _ => fun
  | [d1, d2] => { results := [.lit (.bool false)], args := [d1, d2] }
  | _ => none }
def ShiftNilWrongFalsely : Prop := shiftNilRow.holds Try.pinned (OpenSpec.ofChange shiftNilWrong)

/-- 'vizardlaw06.ShiftGuards': WHATEVER THE INPUT: true; the input reads as it did. -/
def shiftGuardsSpec : ChangeSpec := { name := "shiftGuards", fn := fun _ => fun
  | [d1, d2] => { results := [.lit (.bool true)], args := [d1, d2] }
  | _ => none }
def shiftGuardsRow : OpenClaim := { program := "ytdhhagangmkloaa", sum := "1b44181262d7f2ac0ef8520aef6633f3c5610395008f90bdf8cbb85e0806c093", func := "vizard/vizardlaw06.ShiftGuards", spec := "shiftGuards", unfollowed := true, recurses := true, apart := false }
def ShiftGuardsSaid : Prop := shiftGuardsRow.holds Try.pinned (OpenSpec.ofChange shiftGuardsSpec)

/-- ITS FALSE NEIGHBOUR: 'it returns false'. Refute it at one input. -/
def shiftGuardsWrong : ChangeSpec := { name := "shiftGuards", fn := fun _ => fun
  | [d1, d2] => { results := [.lit (.bool false)], args := [d1, d2] }
  | _ => none }
def ShiftGuardsWrongFalsely : Prop := shiftGuardsRow.holds Try.pinned (OpenSpec.ofChange shiftGuardsWrong)

/-- 'vizardlaw06.ShiftBack': WHATEVER THE INPUT: true; the input reads as it did. -/
def shiftBackSpec : ChangeSpec := { name := "shiftBack", fn := fun _ => fun
  | [d1, d2] => { results := [.lit (.bool true)], args := [d1, d2] }
  | _ => none }
def shiftBackRow : OpenClaim := { program := "ytdhhagangmkloaa", sum := "1b44181262d7f2ac0ef8520aef6633f3c5610395008f90bdf8cbb85e0806c093", func := "vizard/vizardlaw06.ShiftBack", spec := "shiftBack", unfollowed := true, recurses := true, apart := false }
def ShiftBackSaid : Prop := shiftBackRow.holds Try.pinned (OpenSpec.ofChange shiftBackSpec)

/-- ITS FALSE NEIGHBOUR: 'it returns false'. Refute it at one input. -/
def shiftBackWrong : ChangeSpec := { name := "shiftBack", fn := fun _ => fun
  | [d1, d2] => { results := [.lit (.bool false)], args := [d1, d2] }
  | _ => none }
def ShiftBackWrongFalsely : Prop := shiftBackRow.holds Try.pinned (OpenSpec.ofChange shiftBackWrong)

/-- 'vizardlaw08.InkJoins': WHATEVER THE INPUT: true; the input reads as it did. -/
def inkJoinsSpec : ChangeSpec := { name := "inkJoins", fn := fun _ => fun
  | [d1, d2, d3] => { results := [.lit (.bool true)], args := [d1, d2, d3] }
  | _ => none }
def inkJoinsRow : OpenClaim := { program := "ytdhhagangmkloaa", sum := "1b44181262d7f2ac0ef8520aef6633f3c5610395008f90bdf8cbb85e0806c093", func := "vizard/vizardlaw08.InkJoins", spec := "inkJoins", unfollowed := true, recurses := true, apart := false }
def InkJoinsSaid : Prop := inkJoinsRow.holds Try.pinned (OpenSpec.ofChange inkJoinsSpec)

/-- ITS FALSE NEIGHBOUR: 'it returns false'. Refute it at one input. -/
def inkJoinsWrong : ChangeSpec := { name := "inkJoins", fn := fun _ => fun
  | [d1, d2, d3] => { results := [.lit (.bool false)], args := [d1, d2, d3] }
  | _ => none }
def InkJoinsWrongFalsely : Prop := inkJoinsRow.holds Try.pinned (OpenSpec.ofChange inkJoinsWrong)

/-- 'vizardlaw06.ShiftSums': WHATEVER THE INPUT: true; the input reads as it did. -/
def shiftSumsSpec : ChangeSpec := { name := "shiftSums", fn := fun _ => fun
  | [d1, d2, d3] => { results := [.lit (.bool true)], args := [d1, d2, d3] }
  | _ => none }
def shiftSumsRow : OpenClaim := { program := "ytdhhagangmkloaa", sum := "1b44181262d7f2ac0ef8520aef6633f3c5610395008f90bdf8cbb85e0806c093", func := "vizard/vizardlaw06.ShiftSums", spec := "shiftSums", unfollowed := true, recurses := true, apart := false }
def ShiftSumsSaid : Prop := shiftSumsRow.holds Try.pinned (OpenSpec.ofChange shiftSumsSpec)

/-- ITS FALSE NEIGHBOUR: 'it returns false'. Refute it at one input. -/
def shiftSumsWrong : ChangeSpec := { name := "shiftSums", fn := fun _ => fun
  | [d1, d2, d3] => { results := [.lit (.bool false)], args := [d1, d2, d3] }
  | _ => none }
def ShiftSumsWrongFalsely : Prop := shiftSumsRow.holds Try.pinned (OpenSpec.ofChange shiftSumsWrong)

/-- 'vizardlaw08.InkFree': WHATEVER THE INPUT: true; the input reads as it did. -/
def inkFreeSpec : ChangeSpec := { name := "inkFree", fn := fun _ => fun
  | [d1, d2] => { results := [.lit (.bool true)], args := [d1, d2] }
  | _ => none }
def inkFreeRow : OpenClaim := { program := "ytdhhagangmkloaa", sum := "1b44181262d7f2ac0ef8520aef6633f3c5610395008f90bdf8cbb85e0806c093", func := "vizard/vizardlaw08.InkFree", spec := "inkFree", unfollowed := true, recurses := true, apart := false }
def InkFreeSaid : Prop := inkFreeRow.holds Try.pinned (OpenSpec.ofChange inkFreeSpec)

/-- ITS FALSE NEIGHBOUR: 'it returns false'. Refute it at one input. -/
def inkFreeWrong : ChangeSpec := { name := "inkFree", fn := fun _ => fun
  | [d1, d2] => { results := [.lit (.bool false)], args := [d1, d2] }
  | _ => none }
def InkFreeWrongFalsely : Prop := inkFreeRow.holds Try.pinned (OpenSpec.ofChange inkFreeWrong)

/-- 'vizardlaw08.InkOnce': WHATEVER THE INPUT: true; the input reads as it did. -/
def inkOnceSpec : ChangeSpec := { name := "inkOnce", fn := fun _ => fun
  | [d1, d2] => { results := [.lit (.bool true)], args := [d1, d2] }
  | _ => none }
def inkOnceRow : OpenClaim := { program := "ytdhhagangmkloaa", sum := "1b44181262d7f2ac0ef8520aef6633f3c5610395008f90bdf8cbb85e0806c093", func := "vizard/vizardlaw08.InkOnce", spec := "inkOnce", unfollowed := true, recurses := true, apart := false }
def InkOnceSaid : Prop := inkOnceRow.holds Try.pinned (OpenSpec.ofChange inkOnceSpec)

/-- ITS FALSE NEIGHBOUR: 'it returns false'. Refute it at one input. -/
def inkOnceWrong : ChangeSpec := { name := "inkOnce", fn := fun _ => fun
  | [d1, d2] => { results := [.lit (.bool false)], args := [d1, d2] }
  | _ => none }
def InkOnceWrongFalsely : Prop := inkOnceRow.holds Try.pinned (OpenSpec.ofChange inkOnceWrong)

/-- 'vizardlaw08.InkNil': WHATEVER THE INPUT: true; the input reads as it did. -/
def inkNilSpec : ChangeSpec := { name := "inkNil", fn := fun _ => fun
  | [d] => { results := [.lit (.bool true)], args := [d] }
  | _ => none }
def inkNilRow : OpenClaim := { program := "ytdhhagangmkloaa", sum := "1b44181262d7f2ac0ef8520aef6633f3c5610395008f90bdf8cbb85e0806c093", func := "vizard/vizardlaw08.InkNil", spec := "inkNil", unfollowed := true, recurses := true, apart := false }
def InkNilSaid : Prop := inkNilRow.holds Try.pinned (OpenSpec.ofChange inkNilSpec)

/-- ITS FALSE NEIGHBOUR: 'it returns false'. Refute it at one input. -/
def inkNilWrong : ChangeSpec := { name := "inkNil", fn := fun _ => fun
  | [d] => { results := [.lit (.bool false)], args := [d] }
  | _ => none }
def InkNilWrongFalsely : Prop := inkNilRow.holds Try.pinned (OpenSpec.ofChange inkNilWrong)

/-- 'vizardlaw08.InkGuards': WHATEVER THE INPUT: true; the input reads as it did. -/
def inkGuardsSpec : ChangeSpec := { name := "inkGuards", fn := fun _ => fun
  | [d1, d2] => { results := [.lit (.bool true)], args := [d1, d2] }
  | _ => none }
def inkGuardsRow : OpenClaim := { program := "ytdhhagangmkloaa", sum := "1b44181262d7f2ac0ef8520aef6633f3c5610395008f90bdf8cbb85e0806c093", func := "vizard/vizardlaw08.InkGuards", spec := "inkGuards", unfollowed := true, recurses := true, apart := false }
def InkGuardsSaid : Prop := inkGuardsRow.holds Try.pinned (OpenSpec.ofChange inkGuardsSpec)

/-- ITS FALSE NEIGHBOUR: 'it returns false'. Refute it at one input. -/
def inkGuardsWrong : ChangeSpec := { name := "inkGuards", fn := fun _ => fun
  | [d1, d2] => { results := [.lit (.bool false)], args := [d1, d2] }
  | _ => none }
def InkGuardsWrongFalsely : Prop := inkGuardsRow.holds Try.pinned (OpenSpec.ofChange inkGuardsWrong)

/- THE SECOND FORM. 'bulk': how many values and letters a reading holds, each counted each time it is reached (what is shared counts as often as it is met; a slice's spare places count too). A statement '..UptoSaid' is the law's where the arguments, and the package variables that the reading takes, are together of bulk at most 1048576: NARROWER than '..Said'. Prove '..Said' where nothing that the law and all that it calls make is longer than what came in: it says more and counts as full. Else prove '..UptoSaid'. A law counts once. -/
mutual
def uptoBulk {H : Type} : DataW H → Nat
  | .lit (.string bytes) => bytes.length + 1
  | .lit _ => 1
  | .nil => 1
  | .ptr d => uptoBulk d + 1
  | .slice elems spare => uptoBulkAll elems + uptoBulkAll spare + 1
  | .agg parts => uptoBulkAll parts + 1
  | .iface _ d => uptoBulk d + 1
  | .map entries => uptoBulkEntries entries + 1
  | .held _ => 1
def uptoBulkAll {H : Type} : List (DataW H) → Nat
  | [] => 0
  | d :: r => uptoBulk d + uptoBulkAll r
def uptoBulkEntries {H : Type} : List (Lit × DataW H) → Nat
  | [] => 0
  | x :: r => uptoBulkEntry x + uptoBulkEntries r
def uptoBulkEntry {H : Type} : Lit × DataW H → Nat
  | (.string bytes, d) => bytes.length + uptoBulk d + 1
  | (_, d) => uptoBulk d + 1
 end
def uptoSmall : (H : Type) → List (DataW H) → Bool := fun _ ds => decide (uptoBulkAll ds ≤ 1048576)
def OpenSpec.upto (s : _root_.Go.ChangeSpec) : _root_.Go.OpenSpec := { _root_.Go.OpenSpec.ofChange s with cond := some uptoSmall }

/-- 'vizardlaw07.WipePlays', WHERE WHAT IT READS IS OF BULK AT MOST 1048576: true; the input reads as it did. -/
def wipePlaysUptoRow : OpenClaim := { program := "ytdhhagangmkloaa", sum := "1b44181262d7f2ac0ef8520aef6633f3c5610395008f90bdf8cbb85e0806c093", func := "vizard/vizardlaw07.WipePlays", spec := "wipePlays", unfollowed := true, recurses := true, apart := false, narrowed := true }
def WipePlaysUptoSaid : Prop := wipePlaysUptoRow.holds Try.pinned (OpenSpec.upto wipePlaysSpec)

/-- 'vizardlaw07.WipeNil', WHERE WHAT IT READS IS OF BULK AT MOST 1048576: true; the input reads as it did. -/
def wipeNilUptoRow : OpenClaim := { program := "ytdhhagangmkloaa", sum := "1b44181262d7f2ac0ef8520aef6633f3c5610395008f90bdf8cbb85e0806c093", func := "vizard/vizardlaw07.WipeNil", spec := "wipeNil", unfollowed := true, recurses := true, apart := false, narrowed := true }
def WipeNilUptoSaid : Prop := wipeNilUptoRow.holds Try.pinned (OpenSpec.upto wipeNilSpec)

/-- 'vizardlaw06.ShiftChars', WHERE WHAT IT READS IS OF BULK AT MOST 1048576: true; the input reads as it did. -/
def shiftCharsUptoRow : OpenClaim := { program := "ytdhhagangmkloaa", sum := "1b44181262d7f2ac0ef8520aef6633f3c5610395008f90bdf8cbb85e0806c093", func := "vizard/vizardlaw06.ShiftChars", spec := "shiftChars", unfollowed := true, recurses := true, apart := false, narrowed := true }
def ShiftCharsUptoSaid : Prop := shiftCharsUptoRow.holds Try.pinned (OpenSpec.upto shiftCharsSpec)

/-- 'vizardlaw07.WipeParts', WHERE WHAT IT READS IS OF BULK AT MOST 1048576: true; the input reads as it did. -/
def wipePartsUptoRow : OpenClaim := { program := "ytdhhagangmkloaa", sum := "1b44181262d7f2ac0ef8520aef6633f3c5610395008f90bdf8cbb85e0806c093", func := "vizard/vizardlaw07.WipeParts", spec := "wipeParts", unfollowed := true, recurses := true, apart := false, narrowed := true }
def WipePartsUptoSaid : Prop := wipePartsUptoRow.holds Try.pinned (OpenSpec.upto wipePartsSpec)

/-- 'vizardlaw07.WipeMeets', WHERE WHAT IT READS IS OF BULK AT MOST 1048576: true; the input reads as it did. -/
def wipeMeetsUptoRow : OpenClaim := { program := "ytdhhagangmkloaa", sum := "1b44181262d7f2ac0ef8520aef6633f3c5610395008f90bdf8cbb85e0806c093", func := "vizard/vizardlaw07.WipeMeets", spec := "wipeMeets", unfollowed := true, recurses := true, apart := false, narrowed := true }
def WipeMeetsUptoSaid : Prop := wipeMeetsUptoRow.holds Try.pinned (OpenSpec.upto wipeMeetsSpec)

/-- 'vizardlaw07.WipeGuards', WHERE WHAT IT READS IS OF BULK AT MOST 1048576: true; the input reads as it did. -/
def wipeGuardsUptoRow : OpenClaim := { program := "ytdhhagangmkloaa", sum := "1b44181262d7f2ac0ef8520aef6633f3c5610395008f90bdf8cbb85e0806c093", func := "vizard/vizardlaw07.WipeGuards", spec := "wipeGuards", unfollowed := true, recurses := true, apart := false, narrowed := true }
def WipeGuardsUptoSaid : Prop := wipeGuardsUptoRow.holds Try.pinned (OpenSpec.upto wipeGuardsSpec)

/-- 'vizardlaw08.InkPuts', WHERE WHAT IT READS IS OF BULK AT MOST 1048576: true; the input reads as it did. -/
def inkPutsUptoRow : OpenClaim := { program := "ytdhhagangmkloaa", sum := "1b44181262d7f2ac0ef8520aef6633f3c5610395008f90bdf8cbb85e0806c093", func := "vizard/vizardlaw08.InkPuts", spec := "inkPuts", unfollowed := true, recurses := true, apart := false, narrowed := true }
def InkPutsUptoSaid : Prop := inkPutsUptoRow.holds Try.pinned (OpenSpec.upto inkPutsSpec)

/-- 'vizardlaw07.WipeApart', WHERE WHAT IT READS IS OF BULK AT MOST 1048576: true; the input reads as it did. -/
def wipeApartUptoRow : OpenClaim := { program := "ytdhhagangmkloaa", sum := "1b44181262d7f2ac0ef8520aef6633f3c5610395008f90bdf8cbb85e0806c093", func := "vizard/vizardlaw07.WipeApart", spec := "wipeApart", unfollowed := true, recurses := true, apart := false, narrowed := true }
def WipeApartUptoSaid : Prop := wipeApartUptoRow.holds Try.pinned (OpenSpec.upto wipeApartSpec)

/-- 'vizardlaw06.ShiftLines', WHERE WHAT IT READS IS OF BULK AT MOST 1048576: true; the input reads as it did. -/
def shiftLinesUptoRow : OpenClaim := { program := "ytdhhagangmkloaa", sum := "1b44181262d7f2ac0ef8520aef6633f3c5610395008f90bdf8cbb85e0806c093", func := "vizard/vizardlaw06.ShiftLines", spec := "shiftLines", unfollowed := true, recurses := true, apart := false, narrowed := true }
def ShiftLinesUptoSaid : Prop := shiftLinesUptoRow.holds Try.pinned (OpenSpec.upto shiftLinesSpec)

/-- 'vizardlaw06.ShiftNil', WHERE WHAT IT READS IS OF BULK AT MOST 1048576: true; the input reads as it did. -/
def shiftNilUptoRow : OpenClaim := { program := "ytdhhagangmkloaa", sum := "1b44181262d7f2ac0ef8520aef6633f3c5610395008f90bdf8cbb85e0806c093", func := "vizard/vizardlaw06.ShiftNil", spec := "shiftNil", unfollowed := true, recurses := true, apart := false, narrowed := true }
def ShiftNilUptoSaid : Prop := shiftNilUptoRow.holds Try.pinned (OpenSpec.upto shiftNilSpec)

/-- 'vizardlaw06.ShiftGuards', WHERE WHAT IT READS IS OF BULK AT MOST 1048576: true; the input reads as it did. -/
def shiftGuardsUptoRow : OpenClaim := { program := "ytdhhagangmkloaa", sum := "1b44181262d7f2ac0ef8520aef6633f3c5610395008f90bdf8cbb85e0806c093", func := "vizard/vizardlaw06.ShiftGuards", spec := "shiftGuards", unfollowed := true, recurses := true, apart := false, narrowed := true }
def ShiftGuardsUptoSaid : Prop := shiftGuardsUptoRow.holds Try.pinned (OpenSpec.upto shiftGuardsSpec)

/-- 'vizardlaw06.ShiftBack', WHERE WHAT IT READS IS OF BULK AT MOST 1048576: true; the input reads as it did. -/
def shiftBackUptoRow : OpenClaim := { program := "ytdhhagangmkloaa", sum := "1b44181262d7f2ac0ef8520aef6633f3c5610395008f90bdf8cbb85e0806c093", func := "vizard/vizardlaw06.ShiftBack", spec := "shiftBack", unfollowed := true, recurses := true, apart := false, narrowed := true }
def ShiftBackUptoSaid : Prop := shiftBackUptoRow.holds Try.pinned (OpenSpec.upto shiftBackSpec)

/-- 'vizardlaw08.InkJoins', WHERE WHAT IT READS IS OF BULK AT MOST 1048576: true; the input reads as it did. -/
def inkJoinsUptoRow : OpenClaim := { program := "ytdhhagangmkloaa", sum := "1b44181262d7f2ac0ef8520aef6633f3c5610395008f90bdf8cbb85e0806c093", func := "vizard/vizardlaw08.InkJoins", spec := "inkJoins", unfollowed := true, recurses := true, apart := false, narrowed := true }
def InkJoinsUptoSaid : Prop := inkJoinsUptoRow.holds Try.pinned (OpenSpec.upto inkJoinsSpec)

/-- 'vizardlaw06.ShiftSums', WHERE WHAT IT READS IS OF BULK AT MOST 1048576: true; the input reads as it did. -/
def shiftSumsUptoRow : OpenClaim := { program := "ytdhhagangmkloaa", sum := "1b44181262d7f2ac0ef8520aef6633f3c5610395008f90bdf8cbb85e0806c093", func := "vizard/vizardlaw06.ShiftSums", spec := "shiftSums", unfollowed := true, recurses := true, apart := false, narrowed := true }
def ShiftSumsUptoSaid : Prop := shiftSumsUptoRow.holds Try.pinned (OpenSpec.upto shiftSumsSpec)

/-- 'vizardlaw08.InkFree', WHERE WHAT IT READS IS OF BULK AT MOST 1048576: true; the input reads as it did. -/
def inkFreeUptoRow : OpenClaim := { program := "ytdhhagangmkloaa", sum := "1b44181262d7f2ac0ef8520aef6633f3c5610395008f90bdf8cbb85e0806c093", func := "vizard/vizardlaw08.InkFree", spec := "inkFree", unfollowed := true, recurses := true, apart := false, narrowed := true }
def InkFreeUptoSaid : Prop := inkFreeUptoRow.holds Try.pinned (OpenSpec.upto inkFreeSpec)

/-- 'vizardlaw08.InkOnce', WHERE WHAT IT READS IS OF BULK AT MOST 1048576: true; the input reads as it did. -/
def inkOnceUptoRow : OpenClaim := { program := "ytdhhagangmkloaa", sum := "1b44181262d7f2ac0ef8520aef6633f3c5610395008f90bdf8cbb85e0806c093", func := "vizard/vizardlaw08.InkOnce", spec := "inkOnce", unfollowed := true, recurses := true, apart := false, narrowed := true }
def InkOnceUptoSaid : Prop := inkOnceUptoRow.holds Try.pinned (OpenSpec.upto inkOnceSpec)

/-- 'vizardlaw08.InkNil', WHERE WHAT IT READS IS OF BULK AT MOST 1048576: true; the input reads as it did. -/
def inkNilUptoRow : OpenClaim := { program := "ytdhhagangmkloaa", sum := "1b44181262d7f2ac0ef8520aef6633f3c5610395008f90bdf8cbb85e0806c093", func := "vizard/vizardlaw08.InkNil", spec := "inkNil", unfollowed := true, recurses := true, apart := false, narrowed := true }
def InkNilUptoSaid : Prop := inkNilUptoRow.holds Try.pinned (OpenSpec.upto inkNilSpec)

/-- 'vizardlaw08.InkGuards', WHERE WHAT IT READS IS OF BULK AT MOST 1048576: true; the input reads as it did. -/
def inkGuardsUptoRow : OpenClaim := { program := "ytdhhagangmkloaa", sum := "1b44181262d7f2ac0ef8520aef6633f3c5610395008f90bdf8cbb85e0806c093", func := "vizard/vizardlaw08.InkGuards", spec := "inkGuards", unfollowed := true, recurses := true, apart := false, narrowed := true }
def InkGuardsUptoSaid : Prop := inkGuardsUptoRow.holds Try.pinned (OpenSpec.upto inkGuardsSpec)

end Rows
end Go.Proofs.Ytdhhagangmkloaa
