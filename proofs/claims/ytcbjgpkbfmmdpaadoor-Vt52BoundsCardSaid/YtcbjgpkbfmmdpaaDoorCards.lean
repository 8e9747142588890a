/-
  DERIVED. GIVEN WITH THE SEED: THE CARDS: each row of YtcbjgpkbfmmdpaaDoorRows.lean that lists a variable, with what it lists TIED to the program's text (the seventh form; the later family's looks); each row that meets fmt, with fmt's text TOLD by the authors' own Lean function (tested against real Go, not proved from fmt's source: count such statements apart). THE CARD IS WHAT COUNTS. Prove the row's statement (the work); the ties are given (YtcbjgpkbfmmdpaaDoorTie.lean); close each card by the builder's one call (the guide's Derived/Test/ToyasCard.lean, 'card_holds'). Laid BY PROGRAM, IN A SANDBOX (cutbox-door.mjs). By AI agents, Wed Nov 11 2026. No macro, syntax, notation, axiom, sorry.
-/
import Derived.Test.YtcbjgpkbfmmdpaaDoorRows
import GoSem.ClaimSeven
namespace Go.Proofs.YtcbjgpkbfmmdpaaDoor
namespace Rows

/-- THE TIED CARD OF 'vizardlaw12.Vt52Writes'. -/
def vt52WritesCard : Claim7 := { stood := { row := vt52WritesRow, standIns := [], harness := (true, "2d652a5adef837a59280de86bccb36a74da6408755754df45bb631ee5a2ef855"), looks := false }, kinds := [], alts := [], laidByText := true, laidKinds := [.data], laidTests := true, laidLooks := .later }
def Vt52WritesCardSaid : Prop := Claim7.holds Tryd.pinned (.plain (OpenSpec.ofChange vt52WritesSpec)) vt52WritesCard

/-- THE TIED CARD OF 'vizardlaw12.Vt52Moves'. -/
def vt52MovesCard : Claim7 := { stood := { row := vt52MovesRow, standIns := [], harness := (true, "2d652a5adef837a59280de86bccb36a74da6408755754df45bb631ee5a2ef855"), looks := false }, kinds := [], alts := [], laidByText := true, laidKinds := [.data], laidTests := true, laidLooks := .later }
def Vt52MovesCardSaid : Prop := Claim7.holds Tryd.pinned (.plain (OpenSpec.ofChange vt52MovesSpec)) vt52MovesCard

/-- THE TIED CARD OF 'vizardlaw12.Vt52Graphs'. -/
def vt52GraphsCard : Claim7 := { stood := { row := vt52GraphsRow, standIns := [], harness := (true, "2d652a5adef837a59280de86bccb36a74da6408755754df45bb631ee5a2ef855"), looks := false }, kinds := [], alts := [], laidByText := true, laidKinds := [.data], laidTests := true, laidLooks := .later }
def Vt52GraphsCardSaid : Prop := Claim7.holds Tryd.pinned (.plain (OpenSpec.ofChange vt52GraphsSpec)) vt52GraphsCard

/-- THE TIED CARD OF 'vizardlaw12.Vt52Bounds'. -/
def vt52BoundsCard : Claim7 := { stood := { row := vt52BoundsRow, standIns := [], harness := (true, "2d652a5adef837a59280de86bccb36a74da6408755754df45bb631ee5a2ef855"), looks := false }, kinds := [], alts := [], laidByText := true, laidKinds := [.data], laidTests := true, laidLooks := .later }
def Vt52BoundsCardSaid : Prop := Claim7.holds Tryd.pinned (.plain (OpenSpec.ofChange vt52BoundsSpec)) vt52BoundsCard

/-- THE TIED CARD OF 'vizardlaw12.Vt52Nil'. -/
def vt52NilCard : Claim7 := { stood := { row := vt52NilRow, standIns := [], harness := (true, "2d652a5adef837a59280de86bccb36a74da6408755754df45bb631ee5a2ef855"), looks := false }, kinds := [], alts := [], laidByText := true, laidKinds := [.data], laidTests := true, laidLooks := .later }
def Vt52NilCardSaid : Prop := Claim7.holds Tryd.pinned (.plain (OpenSpec.ofChange vt52NilSpec)) vt52NilCard

/-- THE SECOND FORM's CARD OF 'vizardlaw12.Vt52Writes'. -/
def vt52WritesUptoCard : Claim7 := { stood := { row := vt52WritesUptoRow, standIns := [], harness := (true, "2d652a5adef837a59280de86bccb36a74da6408755754df45bb631ee5a2ef855"), looks := false }, kinds := [], alts := [], laidByText := true, laidKinds := [.data], laidTests := true, laidLooks := .later }
def Vt52WritesUptoCardSaid : Prop := Claim7.holds Tryd.pinned (.plain (OpenSpec.upto vt52WritesSpec)) vt52WritesUptoCard

/-- THE SECOND FORM's CARD OF 'vizardlaw12.Vt52Moves'. -/
def vt52MovesUptoCard : Claim7 := { stood := { row := vt52MovesUptoRow, standIns := [], harness := (true, "2d652a5adef837a59280de86bccb36a74da6408755754df45bb631ee5a2ef855"), looks := false }, kinds := [], alts := [], laidByText := true, laidKinds := [.data], laidTests := true, laidLooks := .later }
def Vt52MovesUptoCardSaid : Prop := Claim7.holds Tryd.pinned (.plain (OpenSpec.upto vt52MovesSpec)) vt52MovesUptoCard

/-- THE SECOND FORM's CARD OF 'vizardlaw12.Vt52Graphs'. -/
def vt52GraphsUptoCard : Claim7 := { stood := { row := vt52GraphsUptoRow, standIns := [], harness := (true, "2d652a5adef837a59280de86bccb36a74da6408755754df45bb631ee5a2ef855"), looks := false }, kinds := [], alts := [], laidByText := true, laidKinds := [.data], laidTests := true, laidLooks := .later }
def Vt52GraphsUptoCardSaid : Prop := Claim7.holds Tryd.pinned (.plain (OpenSpec.upto vt52GraphsSpec)) vt52GraphsUptoCard

/-- THE SECOND FORM's CARD OF 'vizardlaw12.Vt52Bounds'. -/
def vt52BoundsUptoCard : Claim7 := { stood := { row := vt52BoundsUptoRow, standIns := [], harness := (true, "2d652a5adef837a59280de86bccb36a74da6408755754df45bb631ee5a2ef855"), looks := false }, kinds := [], alts := [], laidByText := true, laidKinds := [.data], laidTests := true, laidLooks := .later }
def Vt52BoundsUptoCardSaid : Prop := Claim7.holds Tryd.pinned (.plain (OpenSpec.upto vt52BoundsSpec)) vt52BoundsUptoCard

/-- THE SECOND FORM's CARD OF 'vizardlaw12.Vt52Nil'. -/
def vt52NilUptoCard : Claim7 := { stood := { row := vt52NilUptoRow, standIns := [], harness := (true, "2d652a5adef837a59280de86bccb36a74da6408755754df45bb631ee5a2ef855"), looks := false }, kinds := [], alts := [], laidByText := true, laidKinds := [.data], laidTests := true, laidLooks := .later }
def Vt52NilUptoCardSaid : Prop := Claim7.holds Tryd.pinned (.plain (OpenSpec.upto vt52NilSpec)) vt52NilUptoCard
end Rows
end Go.Proofs.YtcbjgpkbfmmdpaaDoor
