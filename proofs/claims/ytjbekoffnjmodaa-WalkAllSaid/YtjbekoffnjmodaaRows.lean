/-
  No cell of these rows narrows 'for every input' (looked for: loops, veiled, ifaces, maps, wideKeys, modest, calm, conditions, laid).
  DERIVED. THE GIVEN ROWS OF THIS SEAT. 6 by the template 'for every input the law returns true; each argument reads behind the call as it read before'; 0 by the template 'total and deterministic' (their statements: YtjbekoffnjmodaaTotals.lean).
  GIVEN WITH THE SEED: the statements are not yours to turn. If you find one false, say at which input.
  Laid BY PROGRAM, IN A SANDBOX (cutbox-rows.mjs): the forced cells as the released guide's own fill.sh prints them over the translation 20008cab124169a8… (all of the seat's roots in one cut). By AI agents, Wed Nov 11 2026. No macro, syntax, notation, axiom, sorry.
-/
import Derived.Test.YtjbekoffnjmodaaChecked
import GoSem.Claim
import GoSem.ClaimJoined
import GoSem.ClaimMapViews
import Derived.JoinedTies
import Derived.KernelRfl
namespace Go.Proofs.Ytjbekoffnjmodaa
/- THE CELL 'sum', in the pinned program and in every row, IS THE sha256 OF THE DUMP (.gsa) THAT YtjbekoffnjmodaaProg.lean LOADS. Nothing in Lean hashes anything: it is a label: what it is worth is what the hold of that sum in a sandbox is worth. -/
noncomputable def Try.pinned : Pinned := { name := "ytjbekoffnjmodaa", sum := "20008cab124169a876bb84d2e9961e5aff216e7ade09250660d4c6d321dcd2da", checked := Try.checked }
namespace Rows
def none {H : Type} : Left H := { results := [], args := [] }

/-- 'vizardlaw04.WalkSteps': WHATEVER THE INPUT: true; the input reads as it did. -/
def walkStepsSpec : ChangeSpec := { name := "walkSteps", fn := fun _ => fun
  | [d1, d2, d3] => { results := [.lit (.bool true)], args := [d1, d2, d3] }
  | _ => none }
def walkStepsRow : OpenClaim := { program := "ytjbekoffnjmodaa", sum := "20008cab124169a876bb84d2e9961e5aff216e7ade09250660d4c6d321dcd2da", func := "vizard/vizardlaw04.WalkSteps", spec := "walkSteps", apart := false }
def WalkStepsSaid : Prop := walkStepsRow.holds Try.pinned (OpenSpec.ofChange walkStepsSpec)

/-- ITS FALSE NEIGHBOUR: 'it returns false'. Refute it at one input. -/
def walkStepsWrong : ChangeSpec := { name := "walkSteps", fn := fun _ => fun
  | [d1, d2, d3] => { results := [.lit (.bool false)], args := [d1, d2, d3] }
  | _ => none }
def WalkStepsWrongFalsely : Prop := walkStepsRow.holds Try.pinned (OpenSpec.ofChange walkStepsWrong)

/-- 'vizardlaw04.WalkWraps': WHATEVER THE INPUT: true; the input reads as it did. -/
def walkWrapsSpec : ChangeSpec := { name := "walkWraps", fn := fun _ => fun
  | [d1, d2, d3] => { results := [.lit (.bool true)], args := [d1, d2, d3] }
  | _ => none }
def walkWrapsRow : OpenClaim := { program := "ytjbekoffnjmodaa", sum := "20008cab124169a876bb84d2e9961e5aff216e7ade09250660d4c6d321dcd2da", func := "vizard/vizardlaw04.WalkWraps", spec := "walkWraps", apart := false }
def WalkWrapsSaid : Prop := walkWrapsRow.holds Try.pinned (OpenSpec.ofChange walkWrapsSpec)

/-- ITS FALSE NEIGHBOUR: 'it returns false'. Refute it at one input. -/
def walkWrapsWrong : ChangeSpec := { name := "walkWraps", fn := fun _ => fun
  | [d1, d2, d3] => { results := [.lit (.bool false)], args := [d1, d2, d3] }
  | _ => none }
def WalkWrapsWrongFalsely : Prop := walkWrapsRow.holds Try.pinned (OpenSpec.ofChange walkWrapsWrong)

/-- 'vizardlaw04.WalkParts': WHATEVER THE INPUT: true; the input reads as it did. -/
def walkPartsSpec : ChangeSpec := { name := "walkParts", fn := fun _ => fun
  | [d1, d2, d3] => { results := [.lit (.bool true)], args := [d1, d2, d3] }
  | _ => none }
def walkPartsRow : OpenClaim := { program := "ytjbekoffnjmodaa", sum := "20008cab124169a876bb84d2e9961e5aff216e7ade09250660d4c6d321dcd2da", func := "vizard/vizardlaw04.WalkParts", spec := "walkParts", apart := false }
def WalkPartsSaid : Prop := walkPartsRow.holds Try.pinned (OpenSpec.ofChange walkPartsSpec)

/-- ITS FALSE NEIGHBOUR: 'it returns false'. Refute it at one input. -/
def walkPartsWrong : ChangeSpec := { name := "walkParts", fn := fun _ => fun
  | [d1, d2, d3] => { results := [.lit (.bool false)], args := [d1, d2, d3] }
  | _ => none }
def WalkPartsWrongFalsely : Prop := walkPartsRow.holds Try.pinned (OpenSpec.ofChange walkPartsWrong)

/-- 'vizardlaw04.WalkAll': WHATEVER THE INPUT: true; the input reads as it did. -/
def walkAllSpec : ChangeSpec := { name := "walkAll", fn := fun _ => fun
  | [d1, d2] => { results := [.lit (.bool true)], args := [d1, d2] }
  | _ => none }
def walkAllRow : OpenClaim := { program := "ytjbekoffnjmodaa", sum := "20008cab124169a876bb84d2e9961e5aff216e7ade09250660d4c6d321dcd2da", func := "vizard/vizardlaw04.WalkAll", spec := "walkAll", apart := false }
def WalkAllSaid : Prop := walkAllRow.holds Try.pinned (OpenSpec.ofChange walkAllSpec)

/-- ITS FALSE NEIGHBOUR: 'it returns false'. Refute it at one input. -/
def walkAllWrong : ChangeSpec := { name := "walkAll", fn := fun _ => fun
  | [d1, d2] => { results := [.lit (.bool false)], args := [d1, d2] }
  | _ => none }
def WalkAllWrongFalsely : Prop := walkAllRow.holds Try.pinned (OpenSpec.ofChange walkAllWrong)

/-- 'vizardlaw04.WalkCounts': WHATEVER THE INPUT: true; the input reads as it did. -/
def walkCountsSpec : ChangeSpec := { name := "walkCounts", fn := fun _ => fun
  | [d1, d2, d3] => { results := [.lit (.bool true)], args := [d1, d2, d3] }
  | _ => none }
def walkCountsRow : OpenClaim := { program := "ytjbekoffnjmodaa", sum := "20008cab124169a876bb84d2e9961e5aff216e7ade09250660d4c6d321dcd2da", func := "vizard/vizardlaw04.WalkCounts", spec := "walkCounts", apart := false }
def WalkCountsSaid : Prop := walkCountsRow.holds Try.pinned (OpenSpec.ofChange walkCountsSpec)

/-- ITS FALSE NEIGHBOUR: 'it returns false'. Refute it at one input. -/
def walkCountsWrong : ChangeSpec := { name := "walkCounts", fn := fun _ => fun
  | [d1, d2, d3] => { results := [.lit (.bool false)], args := [d1, d2, d3] }
  | _ => none }
def WalkCountsWrongFalsely : Prop := walkCountsRow.holds Try.pinned (OpenSpec.ofChange walkCountsWrong)

/-- 'vizardlaw04.WalkBack': WHATEVER THE INPUT: true; the input reads as it did. -/
def walkBackSpec : ChangeSpec := { name := "walkBack", fn := fun _ => fun
  | [d1, d2, d3] => { results := [.lit (.bool true)], args := [d1, d2, d3] }
  | _ => none }
def walkBackRow : OpenClaim := { program := "ytjbekoffnjmodaa", sum := "20008cab124169a876bb84d2e9961e5aff216e7ade09250660d4c6d321dcd2da", func := "vizard/vizardlaw04.WalkBack", spec := "walkBack", apart := false }
def WalkBackSaid : Prop := walkBackRow.holds Try.pinned (OpenSpec.ofChange walkBackSpec)

/-- ITS FALSE NEIGHBOUR: 'it returns false'. Refute it at one input. -/
def walkBackWrong : ChangeSpec := { name := "walkBack", fn := fun _ => fun
  | [d1, d2, d3] => { results := [.lit (.bool false)], args := [d1, d2, d3] }
  | _ => none }
def WalkBackWrongFalsely : Prop := walkBackRow.holds Try.pinned (OpenSpec.ofChange walkBackWrong)

/- THE SECOND FORM. 'bulk': how many values and letters a reading holds, each counted each time it is reached (what is shared counts as often as it is met; a slice's spare places count too). A statement '..UptoSaid' is the law's where the arguments, and the package variables that the reading takes, are together of bulk at most 1048576: NARROWER than '..Said'. Prove '..Said' where nothing that the law and all that it calls make is longer than what came in: it says more and counts as full. Else prove '..UptoSaid'. A law counts once. -/
mutual
def uptoBulk {H : Type} : DataW H → Nat
  | .lit (.string bytes) => bytes.length + 1
  | .lit _ => 1
  | .nil => 1
  | .ptr d => uptoBulk d + 1
  | .slice elems spare => uptoBulkAll elems + uptoBulkAll spare + 1
  | .agg parts => uptoBulkAll parts + 1
  | .iface _ d => uptoBulk d + 1
  | .map entries => uptoBulkEntries entries + 1
  | .held _ => 1
def uptoBulkAll {H : Type} : List (DataW H) → Nat
  | [] => 0
  | d :: r => uptoBulk d + uptoBulkAll r
def uptoBulkEntries {H : Type} : List (Lit × DataW H) → Nat
  | [] => 0
  | x :: r => uptoBulkEntry x + uptoBulkEntries r
def uptoBulkEntry {H : Type} : Lit × DataW H → Nat
  | (.string bytes, d) => bytes.length + uptoBulk d + 1
  | (_, d) => uptoBulk d + 1
 end
def uptoSmall : (H : Type) → List (DataW H) → Bool := fun _ ds => decide (uptoBulkAll ds ≤ 1048576)
def OpenSpec.upto (s : _root_.Go.ChangeSpec) : _root_.Go.OpenSpec := { _root_.Go.OpenSpec.ofChange s with cond := some uptoSmall }

/-- 'vizardlaw04.WalkSteps', WHERE WHAT IT READS IS OF BULK AT MOST 1048576: true; the input reads as it did. -/
def walkStepsUptoRow : OpenClaim := { program := "ytjbekoffnjmodaa", sum := "20008cab124169a876bb84d2e9961e5aff216e7ade09250660d4c6d321dcd2da", func := "vizard/vizardlaw04.WalkSteps", spec := "walkSteps", apart := false, narrowed := true }
def WalkStepsUptoSaid : Prop := walkStepsUptoRow.holds Try.pinned (OpenSpec.upto walkStepsSpec)

/-- 'vizardlaw04.WalkWraps', WHERE WHAT IT READS IS OF BULK AT MOST 1048576: true; the input reads as it did. -/
def walkWrapsUptoRow : OpenClaim := { program := "ytjbekoffnjmodaa", sum := "20008cab124169a876bb84d2e9961e5aff216e7ade09250660d4c6d321dcd2da", func := "vizard/vizardlaw04.WalkWraps", spec := "walkWraps", apart := false, narrowed := true }
def WalkWrapsUptoSaid : Prop := walkWrapsUptoRow.holds Try.pinned (OpenSpec.upto walkWrapsSpec)

/-- 'vizardlaw04.WalkParts', WHERE WHAT IT READS IS OF BULK AT MOST 1048576: true; the input reads as it did. -/
def walkPartsUptoRow : OpenClaim := { program := "ytjbekoffnjmodaa", sum := "20008cab124169a876bb84d2e9961e5aff216e7ade09250660d4c6d321dcd2da", func := "vizard/vizardlaw04.WalkParts", spec := "walkParts", apart := false, narrowed := true }
def WalkPartsUptoSaid : Prop := walkPartsUptoRow.holds Try.pinned (OpenSpec.upto walkPartsSpec)

/-- 'vizardlaw04.WalkAll', WHERE WHAT IT READS IS OF BULK AT MOST 1048576: true; the input reads as it did. -/
def walkAllUptoRow : OpenClaim := { program := "ytjbekoffnjmodaa", sum := "20008cab124169a876bb84d2e9961e5aff216e7ade09250660d4c6d321dcd2da", func := "vizard/vizardlaw04.WalkAll", spec := "walkAll", apart := false, narrowed := true }
def WalkAllUptoSaid : Prop := walkAllUptoRow.holds Try.pinned (OpenSpec.upto walkAllSpec)

/-- 'vizardlaw04.WalkCounts', WHERE WHAT IT READS IS OF BULK AT MOST 1048576: true; the input reads as it did. -/
def walkCountsUptoRow : OpenClaim := { program := "ytjbekoffnjmodaa", sum := "20008cab124169a876bb84d2e9961e5aff216e7ade09250660d4c6d321dcd2da", func := "vizard/vizardlaw04.WalkCounts", spec := "walkCounts", apart := false, narrowed := true }
def WalkCountsUptoSaid : Prop := walkCountsUptoRow.holds Try.pinned (OpenSpec.upto walkCountsSpec)

/-- 'vizardlaw04.WalkBack', WHERE WHAT IT READS IS OF BULK AT MOST 1048576: true; the input reads as it did. -/
def walkBackUptoRow : OpenClaim := { program := "ytjbekoffnjmodaa", sum := "20008cab124169a876bb84d2e9961e5aff216e7ade09250660d4c6d321dcd2da", func := "vizard/vizardlaw04.WalkBack", spec := "walkBack", apart := false, narrowed := true }
def WalkBackUptoSaid : Prop := walkBackUptoRow.holds Try.pinned (OpenSpec.upto walkBackSpec)

end Rows
end Go.Proofs.Ytjbekoffnjmodaa
