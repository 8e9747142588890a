/-
  No cell of these rows narrows 'for every input' (looked for: loops, veiled, ifaces, maps, wideKeys, modest, calm, conditions, laid).
  DERIVED. THE GIVEN ROWS OF THIS SEAT. 6 by the template 'for every input the law returns true; each argument reads behind the call as it read before'; 0 by the template 'total and deterministic' (their statements: YtgpfdajjkalloaaTotals.lean).
  GIVEN WITH THE SEED: the statements are not yours to turn. If you find one false, say at which input.
  Laid BY PROGRAM, IN A SANDBOX (cutbox-rows.mjs): the forced cells as the released guide's own fill.sh prints them over the translation 6f93374d4d1c713b… (all of the seat's roots in one cut). By AI agents, Wed Nov 11 2026. No macro, syntax, notation, axiom, sorry.
-/
import Derived.Test.YtgpfdajjkalloaaChecked
import GoSem.Claim
import GoSem.ClaimJoined
import GoSem.ClaimMapViews
import Derived.JoinedTies
import Derived.KernelRfl
namespace Go.Proofs.Ytgpfdajjkalloaa
/- THE CELL 'sum', in the pinned program and in every row, IS THE sha256 OF THE DUMP (.gsa) THAT YtgpfdajjkalloaaProg.lean LOADS. Nothing in Lean hashes anything: it is a label: what it is worth is what the hold of that sum in a sandbox is worth. -/
noncomputable def Try.pinned : Pinned := { name := "ytgpfdajjkalloaa", sum := "6f93374d4d1c713b9a569b575ac3bdc7e3b1b22685173fe84fad07864303a8bd", checked := Try.checked }
namespace Rows
def none {H : Type} : Left H := { results := [], args := [] }

/-- 'vizardlaw02.GlyphOf': WHATEVER THE INPUT: true; the input reads as it did. -/
def glyphOfSpec : ChangeSpec := { name := "glyphOf", fn := fun _ => fun
  | [d1, d2] => { results := [.lit (.bool true)], args := [d1, d2] }
  | _ => none }
def glyphOfRow : OpenClaim := { program := "ytgpfdajjkalloaa", sum := "6f93374d4d1c713b9a569b575ac3bdc7e3b1b22685173fe84fad07864303a8bd", func := "vizard/vizardlaw02.GlyphOf", spec := "glyphOf", unfollowed := true, recurses := true, apart := false }
def GlyphOfSaid : Prop := glyphOfRow.holds Try.pinned (OpenSpec.ofChange glyphOfSpec)

/-- ITS FALSE NEIGHBOUR: 'it returns false'. Refute it at one input. -/
def glyphOfWrong : ChangeSpec := { name := "glyphOf", fn := fun _ => fun
  | [d1, d2] => { results := [.lit (.bool false)], args := [d1, d2] }
  | _ => none }
def GlyphOfWrongFalsely : Prop := glyphOfRow.holds Try.pinned (OpenSpec.ofChange glyphOfWrong)

/-- 'vizardlaw02.GlyphBack': WHATEVER THE INPUT: true; the input reads as it did. -/
def glyphBackSpec : ChangeSpec := { name := "glyphBack", fn := fun _ => fun
  | [d1, d2, d3] => { results := [.lit (.bool true)], args := [d1, d2, d3] }
  | _ => none }
def glyphBackRow : OpenClaim := { program := "ytgpfdajjkalloaa", sum := "6f93374d4d1c713b9a569b575ac3bdc7e3b1b22685173fe84fad07864303a8bd", func := "vizard/vizardlaw02.GlyphBack", spec := "glyphBack", unfollowed := true, recurses := true, apart := false }
def GlyphBackSaid : Prop := glyphBackRow.holds Try.pinned (OpenSpec.ofChange glyphBackSpec)

/-- ITS FALSE NEIGHBOUR: 'it returns false'. Refute it at one input. -/
def glyphBackWrong : ChangeSpec := { name := "glyphBack", fn := fun _ => fun
  | [d1, d2, d3] => { results := [.lit (.bool false)], args := [d1, d2, d3] }
  | _ => none }
def GlyphBackWrongFalsely : Prop := glyphBackRow.holds Try.pinned (OpenSpec.ofChange glyphBackWrong)

/-- 'vizardlaw02.GlyphTurns': WHATEVER THE INPUT: true; the input reads as it did. -/
def glyphTurnsSpec : ChangeSpec := { name := "glyphTurns", fn := fun _ => fun
  | [d1, d2] => { results := [.lit (.bool true)], args := [d1, d2] }
  | _ => none }
def glyphTurnsRow : OpenClaim := { program := "ytgpfdajjkalloaa", sum := "6f93374d4d1c713b9a569b575ac3bdc7e3b1b22685173fe84fad07864303a8bd", func := "vizard/vizardlaw02.GlyphTurns", spec := "glyphTurns", unfollowed := true, recurses := true, apart := false }
def GlyphTurnsSaid : Prop := glyphTurnsRow.holds Try.pinned (OpenSpec.ofChange glyphTurnsSpec)

/-- ITS FALSE NEIGHBOUR: 'it returns false'. Refute it at one input. -/
def glyphTurnsWrong : ChangeSpec := { name := "glyphTurns", fn := fun _ => fun
  | [d1, d2] => { results := [.lit (.bool false)], args := [d1, d2] }
  | _ => none }
def GlyphTurnsWrongFalsely : Prop := glyphTurnsRow.holds Try.pinned (OpenSpec.ofChange glyphTurnsWrong)

/-- 'vizardlaw02.GlyphCodes': WHATEVER THE INPUT: true; the input reads as it did. -/
def glyphCodesSpec : ChangeSpec := { name := "glyphCodes", fn := fun _ => fun
  | [d1, d2] => { results := [.lit (.bool true)], args := [d1, d2] }
  | _ => none }
def glyphCodesRow : OpenClaim := { program := "ytgpfdajjkalloaa", sum := "6f93374d4d1c713b9a569b575ac3bdc7e3b1b22685173fe84fad07864303a8bd", func := "vizard/vizardlaw02.GlyphCodes", spec := "glyphCodes", unfollowed := true, recurses := true, apart := false }
def GlyphCodesSaid : Prop := glyphCodesRow.holds Try.pinned (OpenSpec.ofChange glyphCodesSpec)

/-- ITS FALSE NEIGHBOUR: 'it returns false'. Refute it at one input. -/
def glyphCodesWrong : ChangeSpec := { name := "glyphCodes", fn := fun _ => fun
  | [d1, d2] => { results := [.lit (.bool false)], args := [d1, d2] }
  | _ => none }
def GlyphCodesWrongFalsely : Prop := glyphCodesRow.holds Try.pinned (OpenSpec.ofChange glyphCodesWrong)

/-- 'vizardlaw02.GlyphText': WHATEVER THE INPUT: true; the input reads as it did. -/
def glyphTextSpec : ChangeSpec := { name := "glyphText", fn := fun _ => fun
  | [d1, d2] => { results := [.lit (.bool true)], args := [d1, d2] }
  | _ => none }
def glyphTextRow : OpenClaim := { program := "ytgpfdajjkalloaa", sum := "6f93374d4d1c713b9a569b575ac3bdc7e3b1b22685173fe84fad07864303a8bd", func := "vizard/vizardlaw02.GlyphText", spec := "glyphText", inPlace := ["internal/abi.NoEscape"], unfollowed := true, recurses := true, apart := false }
def GlyphTextSaid : Prop := glyphTextRow.holds Try.pinned (OpenSpec.ofChange glyphTextSpec)

/-- ITS FALSE NEIGHBOUR: 'it returns false'. Refute it at one input. -/
def glyphTextWrong : ChangeSpec := { name := "glyphText", fn := fun _ => fun
  | [d1, d2] => { results := [.lit (.bool false)], args := [d1, d2] }
  | _ => none }
def GlyphTextWrongFalsely : Prop := glyphTextRow.holds Try.pinned (OpenSpec.ofChange glyphTextWrong)

/-- 'vizardlaw02.GlyphJoins': WHATEVER THE INPUT: true; the input reads as it did. -/
def glyphJoinsSpec : ChangeSpec := { name := "glyphJoins", fn := fun _ => fun
  | [d1, d2, d3] => { results := [.lit (.bool true)], args := [d1, d2, d3] }
  | _ => none }
def glyphJoinsRow : OpenClaim := { program := "ytgpfdajjkalloaa", sum := "6f93374d4d1c713b9a569b575ac3bdc7e3b1b22685173fe84fad07864303a8bd", func := "vizard/vizardlaw02.GlyphJoins", spec := "glyphJoins", inPlace := ["internal/abi.NoEscape"], unfollowed := true, recurses := true, apart := false }
def GlyphJoinsSaid : Prop := glyphJoinsRow.holds Try.pinned (OpenSpec.ofChange glyphJoinsSpec)

/-- ITS FALSE NEIGHBOUR: 'it returns false'. Refute it at one input. -/
def glyphJoinsWrong : ChangeSpec := { name := "glyphJoins", fn := fun _ => fun
  | [d1, d2, d3] => { results := [.lit (.bool false)], args := [d1, d2, d3] }
  | _ => none }
def GlyphJoinsWrongFalsely : Prop := glyphJoinsRow.holds Try.pinned (OpenSpec.ofChange glyphJoinsWrong)

/- THE SECOND FORM. 'bulk': how many values and letters a reading holds, each counted each time it is reached (what is shared counts as often as it is met; a slice's spare places count too). A statement '..UptoSaid' is the law's where the arguments, and the package variables that the reading takes, are together of bulk at most 1048576: NARROWER than '..Said'. Prove '..Said' where nothing that the law and all that it calls make is longer than what came in: it says more and counts as full. Else prove '..UptoSaid'. A law counts once. -/
mutual
def uptoBulk {H : Type} : DataW H → Nat
  | .lit (.string bytes) => bytes.length + 1
  | .lit _ => 1
  | .nil => 1
  | .ptr d => uptoBulk d + 1
  | .slice elems spare => uptoBulkAll elems + uptoBulkAll spare + 1
  | .agg parts => uptoBulkAll parts + 1
  | .iface _ d => uptoBulk d + 1
  | .map entries => uptoBulkEntries entries + 1
  | .held _ => 1
def uptoBulkAll {H : Type} : List (DataW H) → Nat
  | [] => 0
  | d :: r => uptoBulk d + uptoBulkAll r
def uptoBulkEntries {H : Type} : List (Lit × DataW H) → Nat
  | [] => 0
  | x :: r => uptoBulkEntry x + uptoBulkEntries r
def uptoBulkEntry {H : Type} : Lit × DataW H → Nat
  | (.string bytes, d) => bytes.length + uptoBulk d + 1
  | (_, d) => uptoBulk d + 1
 end
def uptoSmall : (H : Type) → List (DataW H) → Bool := fun _ ds => decide (uptoBulkAll ds ≤ 1048576)
def OpenSpec.upto (s : _root_.Go.ChangeSpec) : _root_.Go.OpenSpec := { _root_.Go.OpenSpec.ofChange s with cond := some uptoSmall }

/-- 'vizardlaw02.GlyphOf', WHERE WHAT IT READS IS OF BULK AT MOST 1048576: true; the input reads as it did. -/
def glyphOfUptoRow : OpenClaim := { program := "ytgpfdajjkalloaa", sum := "6f93374d4d1c713b9a569b575ac3bdc7e3b1b22685173fe84fad07864303a8bd", func := "vizard/vizardlaw02.GlyphOf", spec := "glyphOf", unfollowed := true, recurses := true, apart := false, narrowed := true }
def GlyphOfUptoSaid : Prop := glyphOfUptoRow.holds Try.pinned (OpenSpec.upto glyphOfSpec)

/-- 'vizardlaw02.GlyphBack', WHERE WHAT IT READS IS OF BULK AT MOST 1048576: true; the input reads as it did. -/
def glyphBackUptoRow : OpenClaim := { program := "ytgpfdajjkalloaa", sum := "6f93374d4d1c713b9a569b575ac3bdc7e3b1b22685173fe84fad07864303a8bd", func := "vizard/vizardlaw02.GlyphBack", spec := "glyphBack", unfollowed := true, recurses := true, apart := false, narrowed := true }
def GlyphBackUptoSaid : Prop := glyphBackUptoRow.holds Try.pinned (OpenSpec.upto glyphBackSpec)

/-- 'vizardlaw02.GlyphTurns', WHERE WHAT IT READS IS OF BULK AT MOST 1048576: true; the input reads as it did. -/
def glyphTurnsUptoRow : OpenClaim := { program := "ytgpfdajjkalloaa", sum := "6f93374d4d1c713b9a569b575ac3bdc7e3b1b22685173fe84fad07864303a8bd", func := "vizard/vizardlaw02.GlyphTurns", spec := "glyphTurns", unfollowed := true, recurses := true, apart := false, narrowed := true }
def GlyphTurnsUptoSaid : Prop := glyphTurnsUptoRow.holds Try.pinned (OpenSpec.upto glyphTurnsSpec)

/-- 'vizardlaw02.GlyphCodes', WHERE WHAT IT READS IS OF BULK AT MOST 1048576: true; the input reads as it did. -/
def glyphCodesUptoRow : OpenClaim := { program := "ytgpfdajjkalloaa", sum := "6f93374d4d1c713b9a569b575ac3bdc7e3b1b22685173fe84fad07864303a8bd", func := "vizard/vizardlaw02.GlyphCodes", spec := "glyphCodes", unfollowed := true, recurses := true, apart := false, narrowed := true }
def GlyphCodesUptoSaid : Prop := glyphCodesUptoRow.holds Try.pinned (OpenSpec.upto glyphCodesSpec)

/-- 'vizardlaw02.GlyphText', WHERE WHAT IT READS IS OF BULK AT MOST 1048576: true; the input reads as it did. -/
def glyphTextUptoRow : OpenClaim := { program := "ytgpfdajjkalloaa", sum := "6f93374d4d1c713b9a569b575ac3bdc7e3b1b22685173fe84fad07864303a8bd", func := "vizard/vizardlaw02.GlyphText", spec := "glyphText", inPlace := ["internal/abi.NoEscape"], unfollowed := true, recurses := true, apart := false, narrowed := true }
def GlyphTextUptoSaid : Prop := glyphTextUptoRow.holds Try.pinned (OpenSpec.upto glyphTextSpec)

/-- 'vizardlaw02.GlyphJoins', WHERE WHAT IT READS IS OF BULK AT MOST 1048576: true; the input reads as it did. -/
def glyphJoinsUptoRow : OpenClaim := { program := "ytgpfdajjkalloaa", sum := "6f93374d4d1c713b9a569b575ac3bdc7e3b1b22685173fe84fad07864303a8bd", func := "vizard/vizardlaw02.GlyphJoins", spec := "glyphJoins", inPlace := ["internal/abi.NoEscape"], unfollowed := true, recurses := true, apart := false, narrowed := true }
def GlyphJoinsUptoSaid : Prop := glyphJoinsUptoRow.holds Try.pinned (OpenSpec.upto glyphJoinsSpec)

end Rows
end Go.Proofs.Ytgpfdajjkalloaa
