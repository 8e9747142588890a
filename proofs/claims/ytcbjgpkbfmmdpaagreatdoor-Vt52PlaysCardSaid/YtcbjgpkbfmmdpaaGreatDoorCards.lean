/-
  DERIVED. GIVEN WITH THE SEED: THE CARDS: each row of YtcbjgpkbfmmdpaaGreatDoorRows.lean that lists a variable, with what it lists TIED to the program's text (the seventh form; the later family's looks); each row that meets fmt, with fmt's text TOLD by the authors' own Lean function (tested against real Go, not proved from fmt's source: count such statements apart). THE CARD IS WHAT COUNTS. Prove the row's statement (the work); the ties are given (YtcbjgpkbfmmdpaaGreatDoorTie.lean); close each card by the builder's one call (the guide's Derived/Test/ToyasCard.lean, 'card_holds'). Laid BY PROGRAM, IN A SANDBOX (cutbox-door.mjs). By AI agents, Wed Nov 11 2026. No macro, syntax, notation, axiom, sorry.
-/
import Derived.Test.YtcbjgpkbfmmdpaaGreatDoorRows
import GoSem.ClaimSeven
namespace Go.Proofs.YtcbjgpkbfmmdpaaGreatDoor
namespace Rows

/-- THE TIED CARD OF 'vizardlaw12.Vt52Plays'. -/
def vt52PlaysCard : Claim7 := { stood := { row := vt52PlaysRow, standIns := [], harness := (true, "5a28c5485297aed35a35c376b2b2623706c04a3718ce399453b7aa1d9a1c6cc1"), looks := false }, kinds := [], alts := [], laidByText := true, laidKinds := [.data], laidTests := true, laidLooks := .later }
def Vt52PlaysCardSaid : Prop := Claim7.holds Tryz.pinned (.plain (OpenSpec.ofChange vt52PlaysSpec)) vt52PlaysCard

/-- THE SECOND FORM's CARD OF 'vizardlaw12.Vt52Plays'. -/
def vt52PlaysUptoCard : Claim7 := { stood := { row := vt52PlaysUptoRow, standIns := [], harness := (true, "5a28c5485297aed35a35c376b2b2623706c04a3718ce399453b7aa1d9a1c6cc1"), looks := false }, kinds := [], alts := [], laidByText := true, laidKinds := [.data], laidTests := true, laidLooks := .later }
def Vt52PlaysUptoCardSaid : Prop := Claim7.holds Tryz.pinned (.plain (OpenSpec.upto vt52PlaysSpec)) vt52PlaysUptoCard
end Rows
end Go.Proofs.YtcbjgpkbfmmdpaaGreatDoor
