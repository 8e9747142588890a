/-
  No cell of these rows narrows 'for every input' (looked for: loops, veiled, ifaces, maps, wideKeys, modest, calm, conditions, laid).
  DERIVED. THE GIVEN ROWS OF THIS SEAT. 6 by the template 'for every input the law returns true; each argument reads behind the call as it read before'; 0 by the template 'total and deterministic' (their statements: YtienakdnmhmglaaTotals.lean).
  GIVEN WITH THE SEED: the statements are not yours to turn. If you find one false, say at which input.
  Laid BY PROGRAM, IN A SANDBOX (cutbox-rows.mjs): the forced cells as the released guide's own fill.sh prints them over the translation 2390e960b2f7f66e… (all of the seat's roots in one cut). By AI agents, Wed Nov 11 2026. No macro, syntax, notation, axiom, sorry.
-/
import Derived.Test.YtienakdnmhmglaaChecked
import GoSem.Claim
import GoSem.ClaimJoined
import GoSem.ClaimMapViews
import Derived.JoinedTies
import Derived.KernelRfl
namespace Go.Proofs.Ytienakdnmhmglaa
/- THE CELL 'sum', in the pinned program and in every row, IS THE sha256 OF THE DUMP (.gsa) THAT YtienakdnmhmglaaProg.lean LOADS. Nothing in Lean hashes anything: it is a label: what it is worth is what the hold of that sum in a sandbox is worth. -/
noncomputable def Try.pinned : Pinned := { name := "ytienakdnmhmglaa", sum := "2390e960b2f7f66ee51c4c68f31283712fdd779595d5a4c975bc54b9084c319c", checked := Try.checked }
namespace Rows
def none {H : Type} : Left H := { results := [], args := [] }

/-- 'vizardlaw11.QueueOrder': WHATEVER THE INPUT: true; the input reads as it did. -/
def queueOrderSpec : ChangeSpec := { name := "queueOrder", fn := fun _ => fun
  | [d1, d2] => { results := [.lit (.bool true)], args := [d1, d2] }
  | _ => none }
def queueOrderRow : OpenClaim := { program := "ytienakdnmhmglaa", sum := "2390e960b2f7f66ee51c4c68f31283712fdd779595d5a4c975bc54b9084c319c", func := "vizard/vizardlaw11.QueueOrder", spec := "queueOrder", unfollowed := true, recurses := true, apart := false }
def QueueOrderSaid : Prop := queueOrderRow.holds Try.pinned (OpenSpec.ofChange queueOrderSpec)

/-- ITS FALSE NEIGHBOUR: 'it returns false'. Refute it at one input. -/
def queueOrderWrong : ChangeSpec := { name := "queueOrder", fn := fun _ => fun
  | [d1, d2] => { results := [.lit (.bool false)], args := [d1, d2] }
  | _ => none }
def QueueOrderWrongFalsely : Prop := queueOrderRow.holds Try.pinned (OpenSpec.ofChange queueOrderWrong)

/-- 'vizardlaw11.QueueJoins': WHATEVER THE INPUT: true; the input reads as it did. -/
def queueJoinsSpec : ChangeSpec := { name := "queueJoins", fn := fun _ => fun
  | [d] => { results := [.lit (.bool true)], args := [d] }
  | _ => none }
def queueJoinsRow : OpenClaim := { program := "ytienakdnmhmglaa", sum := "2390e960b2f7f66ee51c4c68f31283712fdd779595d5a4c975bc54b9084c319c", func := "vizard/vizardlaw11.QueueJoins", spec := "queueJoins", unfollowed := true, recurses := true, apart := false }
def QueueJoinsSaid : Prop := queueJoinsRow.holds Try.pinned (OpenSpec.ofChange queueJoinsSpec)

/-- ITS FALSE NEIGHBOUR: 'it returns false'. Refute it at one input. -/
def queueJoinsWrong : ChangeSpec := { name := "queueJoins", fn := fun _ => fun
  | [d] => { results := [.lit (.bool false)], args := [d] }
  | _ => none }
def QueueJoinsWrongFalsely : Prop := queueJoinsRow.holds Try.pinned (OpenSpec.ofChange queueJoinsWrong)

/-- 'vizardlaw11.QueueRounds': WHATEVER THE INPUT: true; the input reads as it did. -/
def queueRoundsSpec : ChangeSpec := { name := "queueRounds", fn := fun _ => fun
  | [d1, d2] => { results := [.lit (.bool true)], args := [d1, d2] }
  | _ => none }
def queueRoundsRow : OpenClaim := { program := "ytienakdnmhmglaa", sum := "2390e960b2f7f66ee51c4c68f31283712fdd779595d5a4c975bc54b9084c319c", func := "vizard/vizardlaw11.QueueRounds", spec := "queueRounds", unfollowed := true, recurses := true, apart := false }
def QueueRoundsSaid : Prop := queueRoundsRow.holds Try.pinned (OpenSpec.ofChange queueRoundsSpec)

/-- ITS FALSE NEIGHBOUR: 'it returns false'. Refute it at one input. -/
def queueRoundsWrong : ChangeSpec := { name := "queueRounds", fn := fun _ => fun
  | [d1, d2] => { results := [.lit (.bool false)], args := [d1, d2] }
  | _ => none }
def QueueRoundsWrongFalsely : Prop := queueRoundsRow.holds Try.pinned (OpenSpec.ofChange queueRoundsWrong)

/-- 'vizardlaw11.QueuePlays': WHATEVER THE INPUT: true; the input reads as it did. -/
def queuePlaysSpec : ChangeSpec := { name := "queuePlays", fn := fun _ => fun
  | [d1, d2] => { results := [.lit (.bool true)], args := [d1, d2] }
  | _ => none }
def queuePlaysRow : OpenClaim := { program := "ytienakdnmhmglaa", sum := "2390e960b2f7f66ee51c4c68f31283712fdd779595d5a4c975bc54b9084c319c", func := "vizard/vizardlaw11.QueuePlays", spec := "queuePlays", unfollowed := true, recurses := true, apart := false }
def QueuePlaysSaid : Prop := queuePlaysRow.holds Try.pinned (OpenSpec.ofChange queuePlaysSpec)

/-- ITS FALSE NEIGHBOUR: 'it returns false'. Refute it at one input. -/
def queuePlaysWrong : ChangeSpec := { name := "queuePlays", fn := fun _ => fun
  | [d1, d2] => { results := [.lit (.bool false)], args := [d1, d2] }
  | _ => none }
def QueuePlaysWrongFalsely : Prop := queuePlaysRow.holds Try.pinned (OpenSpec.ofChange queuePlaysWrong)

/-- 'vizardlaw11.QueueCopies': WHATEVER THE INPUT: true; the input reads as it did. -/
def queueCopiesSpec : ChangeSpec := { name := "queueCopies", fn := fun _ => fun
  | [d1, d2, d3] => { results := [.lit (.bool true)], args := [d1, d2, d3] }
  | _ => none }
def queueCopiesRow : OpenClaim := { program := "ytienakdnmhmglaa", sum := "2390e960b2f7f66ee51c4c68f31283712fdd779595d5a4c975bc54b9084c319c", func := "vizard/vizardlaw11.QueueCopies", spec := "queueCopies", unfollowed := true, recurses := true, apart := false }
def QueueCopiesSaid : Prop := queueCopiesRow.holds Try.pinned (OpenSpec.ofChange queueCopiesSpec)

/-- ITS FALSE NEIGHBOUR: 'it returns false'. Refute it at one input. -/
def queueCopiesWrong : ChangeSpec := { name := "queueCopies", fn := fun _ => fun
  | [d1, d2, d3] => { results := [.lit (.bool false)], args := [d1, d2, d3] }
  | _ => none }
def QueueCopiesWrongFalsely : Prop := queueCopiesRow.holds Try.pinned (OpenSpec.ofChange queueCopiesWrong)

/-- 'vizardlaw11.QueueNil': WHATEVER THE INPUT: true; the input reads as it did. -/
def queueNilSpec : ChangeSpec := { name := "queueNil", fn := fun _ => fun
  | [d] => { results := [.lit (.bool true)], args := [d] }
  | _ => none }
def queueNilRow : OpenClaim := { program := "ytienakdnmhmglaa", sum := "2390e960b2f7f66ee51c4c68f31283712fdd779595d5a4c975bc54b9084c319c", func := "vizard/vizardlaw11.QueueNil", spec := "queueNil", unfollowed := true, recurses := true, apart := false }
def QueueNilSaid : Prop := queueNilRow.holds Try.pinned (OpenSpec.ofChange queueNilSpec)

/-- ITS FALSE NEIGHBOUR: 'it returns false'. Refute it at one input. -/
def queueNilWrong : ChangeSpec := { name := "queueNil", fn := fun _ => fun
  | [d] => { results := [.lit (.bool false)], args := [d] }
  | _ => none }
def QueueNilWrongFalsely : Prop := queueNilRow.holds Try.pinned (OpenSpec.ofChange queueNilWrong)

/- THE SECOND FORM. 'bulk': how many values and letters a reading holds, each counted each time it is reached (what is shared counts as often as it is met; a slice's spare places count too). A statement '..UptoSaid' is the law's where the arguments, and the package variables that the reading takes, are together of bulk at most 1048576: NARROWER than '..Said'. Prove '..Said' where nothing that the law and all that it calls make is longer than what came in: it says more and counts as full. Else prove '..UptoSaid'. A law counts once. -/
mutual
def uptoBulk {H : Type} : DataW H → Nat
  | .lit (.string bytes) => bytes.length + 1
  | .lit _ => 1
  | .nil => 1
  | .ptr d => uptoBulk d + 1
  | .slice elems spare => uptoBulkAll elems + uptoBulkAll spare + 1
  | .agg parts => uptoBulkAll parts + 1
  | .iface _ d => uptoBulk d + 1
  | .map entries => uptoBulkEntries entries + 1
  | .held _ => 1
def uptoBulkAll {H : Type} : List (DataW H) → Nat
  | [] => 0
  | d :: r => uptoBulk d + uptoBulkAll r
def uptoBulkEntries {H : Type} : List (Lit × DataW H) → Nat
  | [] => 0
  | x :: r => uptoBulkEntry x + uptoBulkEntries r
def uptoBulkEntry {H : Type} : Lit × DataW H → Nat
  | (.string bytes, d) => bytes.length + uptoBulk d + 1
  | (_, d) => uptoBulk d + 1
 end
def uptoSmall : (H : Type) → List (DataW H) → Bool := fun _ ds => decide (uptoBulkAll ds ≤ 1048576)
def OpenSpec.upto (s : _root_.Go.ChangeSpec) : _root_.Go.OpenSpec := { _root_.Go.OpenSpec.ofChange s with cond := some uptoSmall }

/-- 'vizardlaw11.QueueOrder', WHERE WHAT IT READS IS OF BULK AT MOST 1048576: true; the input reads as it did. -/
def queueOrderUptoRow : OpenClaim := { program := "ytienakdnmhmglaa", sum := "2390e960b2f7f66ee51c4c68f31283712fdd779595d5a4c975bc54b9084c319c", func := "vizard/vizardlaw11.QueueOrder", spec := "queueOrder", unfollowed := true, recurses := true, apart := false, narrowed := true }
def QueueOrderUptoSaid : Prop := queueOrderUptoRow.holds Try.pinned (OpenSpec.upto queueOrderSpec)

/-- 'vizardlaw11.QueueJoins', WHERE WHAT IT READS IS OF BULK AT MOST 1048576: true; the input reads as it did. -/
def queueJoinsUptoRow : OpenClaim := { program := "ytienakdnmhmglaa", sum := "2390e960b2f7f66ee51c4c68f31283712fdd779595d5a4c975bc54b9084c319c", func := "vizard/vizardlaw11.QueueJoins", spec := "queueJoins", unfollowed := true, recurses := true, apart := false, narrowed := true }
def QueueJoinsUptoSaid : Prop := queueJoinsUptoRow.holds Try.pinned (OpenSpec.upto queueJoinsSpec)

/-- 'vizardlaw11.QueueRounds', WHERE WHAT IT READS IS OF BULK AT MOST 1048576: true; the input reads as it did. -/
def queueRoundsUptoRow : OpenClaim := { program := "ytienakdnmhmglaa", sum := "2390e960b2f7f66ee51c4c68f31283712fdd779595d5a4c975bc54b9084c319c", func := "vizard/vizardlaw11.QueueRounds", spec := "queueRounds", unfollowed := true, recurses := true, apart := false, narrowed := true }
def QueueRoundsUptoSaid : Prop := queueRoundsUptoRow.holds Try.pinned (OpenSpec.upto queueRoundsSpec)

/-- 'vizardlaw11.QueuePlays', WHERE WHAT IT READS IS OF BULK AT MOST 1048576: true; the input reads as it did. -/
def queuePlaysUptoRow : OpenClaim := { program := "ytienakdnmhmglaa", sum := "2390e960b2f7f66ee51c4c68f31283712fdd779595d5a4c975bc54b9084c319c", func := "vizard/vizardlaw11.QueuePlays", spec := "queuePlays", unfollowed := true, recurses := true, apart := false, narrowed := true }
def QueuePlaysUptoSaid : Prop := queuePlaysUptoRow.holds Try.pinned (OpenSpec.upto queuePlaysSpec)

/-- 'vizardlaw11.QueueCopies', WHERE WHAT IT READS IS OF BULK AT MOST 1048576: true; the input reads as it did. -/
def queueCopiesUptoRow : OpenClaim := { program := "ytienakdnmhmglaa", sum := "2390e960b2f7f66ee51c4c68f31283712fdd779595d5a4c975bc54b9084c319c", func := "vizard/vizardlaw11.QueueCopies", spec := "queueCopies", unfollowed := true, recurses := true, apart := false, narrowed := true }
def QueueCopiesUptoSaid : Prop := queueCopiesUptoRow.holds Try.pinned (OpenSpec.upto queueCopiesSpec)

/-- 'vizardlaw11.QueueNil', WHERE WHAT IT READS IS OF BULK AT MOST 1048576: true; the input reads as it did. -/
def queueNilUptoRow : OpenClaim := { program := "ytienakdnmhmglaa", sum := "2390e960b2f7f66ee51c4c68f31283712fdd779595d5a4c975bc54b9084c319c", func := "vizard/vizardlaw11.QueueNil", spec := "queueNil", unfollowed := true, recurses := true, apart := false, narrowed := true }
def QueueNilUptoSaid : Prop := queueNilUptoRow.holds Try.pinned (OpenSpec.upto queueNilSpec)

end Rows
end Go.Proofs.Ytienakdnmhmglaa
