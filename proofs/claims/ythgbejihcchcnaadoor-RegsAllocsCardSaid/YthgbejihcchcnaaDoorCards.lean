/-
  DERIVED. GIVEN WITH THE SEED: THE CARDS: each row of YthgbejihcchcnaaDoorRows.lean that lists a variable, with what it lists TIED to the program's text (the seventh form; the later family's looks); each row that meets fmt, with fmt's text TOLD by the authors' own Lean function (tested against real Go, not proved from fmt's source: count such statements apart). THE CARD IS WHAT COUNTS. Prove the row's statement (the work); the ties are given (YthgbejihcchcnaaDoorTie.lean); close each card by the builder's one call (the guide's Derived/Test/ToyasCard.lean, 'card_holds'). Laid BY PROGRAM, IN A SANDBOX (cutbox-door.mjs). By AI agents, Wed Nov 11 2026. No macro, syntax, notation, axiom, sorry.
-/
import Derived.Test.YthgbejihcchcnaaDoorRows
import GoSem.ClaimSeven
namespace Go.Proofs.YthgbejihcchcnaaDoor
namespace Rows

/-- THE TIED CARD OF 'mortiselaw27.RegsRights'. -/
def regsRightsCard : Claim7 := { stood := { row := regsRightsRow, standIns := [], harness := (true, "e6067525e1d2caf0e5692c10c251124335f651b3f1b02c9f3ca9739a8f4466b9"), looks := true }, kinds := [], alts := [], laidByText := true, laidKinds := [.data], laidTests := true, laidLooks := .later }
def RegsRightsCardSaid : Prop := Claim7.holds Tryd.pinned (.plain (OpenSpec.ofChange regsRightsSpec)) regsRightsCard

/-- THE TIED CARD OF 'mortiselaw27.RegsAllocs'. -/
def regsAllocsCard : Claim7 := { stood := { row := regsAllocsRow, standIns := [], harness := (true, "e6067525e1d2caf0e5692c10c251124335f651b3f1b02c9f3ca9739a8f4466b9"), looks := true }, kinds := [], alts := [], laidByText := true, laidKinds := [.data], laidTests := true, laidLooks := .later }
def RegsAllocsCardSaid : Prop := Claim7.holds Tryd.pinned (.plain (OpenSpec.ofChange regsAllocsSpec)) regsAllocsCard

/-- THE TIED CARD OF 'mortiselaw27.RegsTwins'. -/
def regsTwinsCard : Claim7 := { stood := { row := regsTwinsRow, standIns := [], harness := (true, "e6067525e1d2caf0e5692c10c251124335f651b3f1b02c9f3ca9739a8f4466b9"), looks := true }, kinds := [], alts := [], laidByText := true, laidKinds := [.data], laidTests := true, laidLooks := .later }
def RegsTwinsCardSaid : Prop := Claim7.holds Tryd.pinned (.plain (OpenSpec.ofChange regsTwinsSpec)) regsTwinsCard

/-- THE SECOND FORM's CARD OF 'mortiselaw27.RegsRights'. -/
def regsRightsUptoCard : Claim7 := { stood := { row := regsRightsUptoRow, standIns := [], harness := (true, "e6067525e1d2caf0e5692c10c251124335f651b3f1b02c9f3ca9739a8f4466b9"), looks := true }, kinds := [], alts := [], laidByText := true, laidKinds := [.data], laidTests := true, laidLooks := .later }
def RegsRightsUptoCardSaid : Prop := Claim7.holds Tryd.pinned (.plain (OpenSpec.upto regsRightsSpec)) regsRightsUptoCard

/-- THE SECOND FORM's CARD OF 'mortiselaw27.RegsAllocs'. -/
def regsAllocsUptoCard : Claim7 := { stood := { row := regsAllocsUptoRow, standIns := [], harness := (true, "e6067525e1d2caf0e5692c10c251124335f651b3f1b02c9f3ca9739a8f4466b9"), looks := true }, kinds := [], alts := [], laidByText := true, laidKinds := [.data], laidTests := true, laidLooks := .later }
def RegsAllocsUptoCardSaid : Prop := Claim7.holds Tryd.pinned (.plain (OpenSpec.upto regsAllocsSpec)) regsAllocsUptoCard

/-- THE SECOND FORM's CARD OF 'mortiselaw27.RegsTwins'. -/
def regsTwinsUptoCard : Claim7 := { stood := { row := regsTwinsUptoRow, standIns := [], harness := (true, "e6067525e1d2caf0e5692c10c251124335f651b3f1b02c9f3ca9739a8f4466b9"), looks := true }, kinds := [], alts := [], laidByText := true, laidKinds := [.data], laidTests := true, laidLooks := .later }
def RegsTwinsUptoCardSaid : Prop := Claim7.holds Tryd.pinned (.plain (OpenSpec.upto regsTwinsSpec)) regsTwinsUptoCard
end Rows
end Go.Proofs.YthgbejihcchcnaaDoor
