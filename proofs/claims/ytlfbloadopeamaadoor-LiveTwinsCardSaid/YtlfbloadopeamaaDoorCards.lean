/-
  DERIVED. GIVEN WITH THE SEED: THE CARDS: each row of YtlfbloadopeamaaDoorRows.lean that lists a variable, with what it lists TIED to the program's text (the seventh form; the later family's looks); each row that meets fmt, with fmt's text TOLD by the authors' own Lean function (tested against real Go, not proved from fmt's source: count such statements apart). THE CARD IS WHAT COUNTS. Prove the row's statement (the work); the ties are given (YtlfbloadopeamaaDoorTie.lean); close each card by the builder's one call (the guide's Derived/Test/ToyasCard.lean, 'card_holds'). Laid BY PROGRAM, IN A SANDBOX (cutbox-door.mjs). By AI agents, Wed Nov 11 2026. No macro, syntax, notation, axiom, sorry.
-/
import Derived.Test.YtlfbloadopeamaaDoorRows
import GoSem.ClaimSeven
namespace Go.Proofs.YtlfbloadopeamaaDoor
namespace Rows

/-- THE TIED CARD OF 'mortiselaw25.LiveSets'. -/
def liveSetsCard : Claim7 := { stood := { row := liveSetsRow, standIns := [], harness := (true, "7cec63b8303356e8acb6a85b52b638e618328ae7808f06db45f396b68d2d7870"), looks := false }, kinds := [], alts := [], laidByText := true, laidKinds := [.data], laidTests := true, laidLooks := .later }
def LiveSetsCardSaid : Prop := Claim7.holds Tryd.pinned (.plain (OpenSpec.ofChange liveSetsSpec)) liveSetsCard

/-- THE TIED CARD OF 'mortiselaw25.LiveMosts'. -/
def liveMostsCard : Claim7 := { stood := { row := liveMostsRow, standIns := [], harness := (true, "7cec63b8303356e8acb6a85b52b638e618328ae7808f06db45f396b68d2d7870"), looks := false }, kinds := [], alts := [], laidByText := true, laidKinds := [.data], laidTests := true, laidLooks := .later }
def LiveMostsCardSaid : Prop := Claim7.holds Tryd.pinned (.plain (OpenSpec.ofChange liveMostsSpec)) liveMostsCard

/-- THE TIED CARD OF 'mortiselaw25.LiveSides'. -/
def liveSidesCard : Claim7 := { stood := { row := liveSidesRow, standIns := [], harness := (true, "7cec63b8303356e8acb6a85b52b638e618328ae7808f06db45f396b68d2d7870"), looks := false }, kinds := [], alts := [], laidByText := true, laidKinds := [.data], laidTests := true, laidLooks := .later }
def LiveSidesCardSaid : Prop := Claim7.holds Tryd.pinned (.plain (OpenSpec.ofChange liveSidesSpec)) liveSidesCard

/-- THE TIED CARD OF 'mortiselaw25.LiveTwins'. -/
def liveTwinsCard : Claim7 := { stood := { row := liveTwinsRow, standIns := [], harness := (true, "7cec63b8303356e8acb6a85b52b638e618328ae7808f06db45f396b68d2d7870"), looks := false }, kinds := [], alts := [], laidByText := true, laidKinds := [.data], laidTests := true, laidLooks := .later }
def LiveTwinsCardSaid : Prop := Claim7.holds Tryd.pinned (.plain (OpenSpec.ofChange liveTwinsSpec)) liveTwinsCard

/-- THE SECOND FORM's CARD OF 'mortiselaw25.LiveSets'. -/
def liveSetsUptoCard : Claim7 := { stood := { row := liveSetsUptoRow, standIns := [], harness := (true, "7cec63b8303356e8acb6a85b52b638e618328ae7808f06db45f396b68d2d7870"), looks := false }, kinds := [], alts := [], laidByText := true, laidKinds := [.data], laidTests := true, laidLooks := .later }
def LiveSetsUptoCardSaid : Prop := Claim7.holds Tryd.pinned (.plain (OpenSpec.upto liveSetsSpec)) liveSetsUptoCard

/-- THE SECOND FORM's CARD OF 'mortiselaw25.LiveMosts'. -/
def liveMostsUptoCard : Claim7 := { stood := { row := liveMostsUptoRow, standIns := [], harness := (true, "7cec63b8303356e8acb6a85b52b638e618328ae7808f06db45f396b68d2d7870"), looks := false }, kinds := [], alts := [], laidByText := true, laidKinds := [.data], laidTests := true, laidLooks := .later }
def LiveMostsUptoCardSaid : Prop := Claim7.holds Tryd.pinned (.plain (OpenSpec.upto liveMostsSpec)) liveMostsUptoCard

/-- THE SECOND FORM's CARD OF 'mortiselaw25.LiveSides'. -/
def liveSidesUptoCard : Claim7 := { stood := { row := liveSidesUptoRow, standIns := [], harness := (true, "7cec63b8303356e8acb6a85b52b638e618328ae7808f06db45f396b68d2d7870"), looks := false }, kinds := [], alts := [], laidByText := true, laidKinds := [.data], laidTests := true, laidLooks := .later }
def LiveSidesUptoCardSaid : Prop := Claim7.holds Tryd.pinned (.plain (OpenSpec.upto liveSidesSpec)) liveSidesUptoCard

/-- THE SECOND FORM's CARD OF 'mortiselaw25.LiveTwins'. -/
def liveTwinsUptoCard : Claim7 := { stood := { row := liveTwinsUptoRow, standIns := [], harness := (true, "7cec63b8303356e8acb6a85b52b638e618328ae7808f06db45f396b68d2d7870"), looks := false }, kinds := [], alts := [], laidByText := true, laidKinds := [.data], laidTests := true, laidLooks := .later }
def LiveTwinsUptoCardSaid : Prop := Claim7.holds Tryd.pinned (.plain (OpenSpec.upto liveTwinsSpec)) liveTwinsUptoCard
end Rows
end Go.Proofs.YtlfbloadopeamaaDoor
