/-
  DERIVED. GIVEN WITH THE SEED: THE CARDS: each row of YtmagppkclnebjaaGreatDoorRows.lean that lists a variable, with what it lists TIED to the program's text (the seventh form; the later family's looks); each row that meets fmt, with fmt's text TOLD by the authors' own Lean function (tested against real Go, not proved from fmt's source: count such statements apart). THE CARD IS WHAT COUNTS. Prove the row's statement (the work); the ties are given (YtmagppkclnebjaaGreatDoorTie.lean); close each card by the builder's one call (the guide's Derived/Test/ToyasCard.lean, 'card_holds'). Laid BY PROGRAM, IN A SANDBOX (cutbox-door.mjs). By AI agents, Wed Nov 11 2026. No macro, syntax, notation, axiom, sorry.
-/
import Derived.Test.YtmagppkclnebjaaGreatDoorRows
import GoSem.ClaimSeven
namespace Go.Proofs.YtmagppkclnebjaaGreatDoor
namespace Rows

/-- THE TIED CARD OF 'dugoutlaw03.LineupOrders'. -/
def lineupOrdersCard : Claim7 := { stood := { row := lineupOrdersRow, standIns := [], harness := (true, "f7a13b5d108b3077dbcdc25e70d23d5a4fa9bfd3f6ff4856ff2303fbbb26a29f"), looks := true }, kinds := [], alts := [], laidByText := true, laidKinds := [.data, .data, .data, .data, .sentinel, .sentinel, .pinned], laidTests := true, laidLooks := .later }
def LineupOrdersCardSaid : Prop := Claim7.holds Tryz.pinned (.plain (OpenSpec.ofChange lineupOrdersSpec)) lineupOrdersCard

/-- THE TIED CARD OF 'dugoutlaw03.LineupTexts'. -/
def lineupTextsCard : Claim7 := { stood := { row := lineupTextsRow, standIns := [], harness := (true, "f7a13b5d108b3077dbcdc25e70d23d5a4fa9bfd3f6ff4856ff2303fbbb26a29f"), looks := true }, kinds := [], alts := [], laidByText := true, laidKinds := [.data, .data, .data, .data, .sentinel, .sentinel, .pinned], laidTests := true, laidLooks := .later }
def LineupTextsCardSaid : Prop := Claim7.holds Tryz.pinned (.plain (OpenSpec.ofChange lineupTextsSpec)) lineupTextsCard

/-- THE TIED CARD OF 'dugoutlaw03.LineupTurns'. -/
def lineupTurnsCard : Claim7 := { stood := { row := lineupTurnsRow, standIns := [], harness := (true, "f7a13b5d108b3077dbcdc25e70d23d5a4fa9bfd3f6ff4856ff2303fbbb26a29f"), looks := true }, kinds := [], alts := [], laidByText := true, laidKinds := [.data, .data, .data, .data, .sentinel, .sentinel, .pinned], laidTests := true, laidLooks := .later }
def LineupTurnsCardSaid : Prop := Claim7.holds Tryz.pinned (.plain (OpenSpec.ofChange lineupTurnsSpec)) lineupTurnsCard

/-- THE TIED CARD OF 'dugoutlaw03.LineupPrints'. -/
def lineupPrintsCard : Claim7 := { stood := { row := lineupPrintsRow, standIns := [], harness := (true, "f7a13b5d108b3077dbcdc25e70d23d5a4fa9bfd3f6ff4856ff2303fbbb26a29f"), looks := true }, kinds := [], alts := [], laidByText := true, laidKinds := [.data, .data, .data, .data, .sentinel, .sentinel, .pinned], laidTests := true, laidLooks := .later }
def LineupPrintsCardSaid : Prop := Claim7.holds Tryz.pinned (.plain (OpenSpec.ofChange lineupPrintsSpec)) lineupPrintsCard

/-- THE TIED CARD OF 'dugoutlaw03.LineupWho'. -/
def lineupWhoCard : Claim7 := { stood := { row := lineupWhoRow, standIns := [], harness := (true, "f7a13b5d108b3077dbcdc25e70d23d5a4fa9bfd3f6ff4856ff2303fbbb26a29f"), looks := true }, kinds := [], alts := [], laidByText := true, laidKinds := [.data, .data, .data, .data, .sentinel, .sentinel, .pinned], laidTests := true, laidLooks := .later }
def LineupWhoCardSaid : Prop := Claim7.holds Tryz.pinned (.plain (OpenSpec.ofChange lineupWhoSpec)) lineupWhoCard

/-- THE TIED CARD OF 'dugoutlaw03.LineupStints'. -/
def lineupStintsCard : Claim7 := { stood := { row := lineupStintsRow, standIns := [], harness := (true, "f7a13b5d108b3077dbcdc25e70d23d5a4fa9bfd3f6ff4856ff2303fbbb26a29f"), looks := true }, kinds := [], alts := [], laidByText := true, laidKinds := [.data, .data, .data, .data, .sentinel, .sentinel, .pinned], laidTests := true, laidLooks := .later }
def LineupStintsCardSaid : Prop := Claim7.holds Tryz.pinned (.plain (OpenSpec.ofChange lineupStintsSpec)) lineupStintsCard

/-- THE TIED CARD OF 'dugoutlaw03.LineupPlayers'. -/
def lineupPlayersCard : Claim7 := { stood := { row := lineupPlayersRow, standIns := [], harness := (true, "f7a13b5d108b3077dbcdc25e70d23d5a4fa9bfd3f6ff4856ff2303fbbb26a29f"), looks := true }, kinds := [], alts := [], laidByText := true, laidKinds := [.data, .data, .data, .data, .sentinel, .sentinel, .pinned], laidTests := true, laidLooks := .later }
def LineupPlayersCardSaid : Prop := Claim7.holds Tryz.pinned (.plain (OpenSpec.ofChange lineupPlayersSpec)) lineupPlayersCard

/-- THE TIED CARD OF 'dugoutlaw03.LineupSteady'. -/
def lineupSteadyCard : Claim7 := { stood := { row := lineupSteadyRow, standIns := [], harness := (true, "f7a13b5d108b3077dbcdc25e70d23d5a4fa9bfd3f6ff4856ff2303fbbb26a29f"), looks := true }, kinds := [], alts := [], laidByText := true, laidKinds := [.data, .data, .data, .data, .sentinel, .sentinel, .pinned], laidTests := true, laidLooks := .later }
def LineupSteadyCardSaid : Prop := Claim7.holds Tryz.pinned (.plain (OpenSpec.ofChange lineupSteadySpec)) lineupSteadyCard

/-- THE TIED CARD OF 'dugoutlaw03.LineupSplits'. -/
def lineupSplitsCard : Claim7 := { stood := { row := lineupSplitsRow, standIns := [], harness := (true, "f7a13b5d108b3077dbcdc25e70d23d5a4fa9bfd3f6ff4856ff2303fbbb26a29f"), looks := true }, kinds := [], alts := [], laidByText := true, laidKinds := [.data, .data, .data, .data, .sentinel, .sentinel, .pinned], laidTests := true, laidLooks := .later }
def LineupSplitsCardSaid : Prop := Claim7.holds Tryz.pinned (.plain (OpenSpec.ofChange lineupSplitsSpec)) lineupSplitsCard

/-- THE TIED CARD OF 'dugoutlaw03.LineupHalves'. -/
def lineupHalvesCard : Claim7 := { stood := { row := lineupHalvesRow, standIns := [], harness := (true, "f7a13b5d108b3077dbcdc25e70d23d5a4fa9bfd3f6ff4856ff2303fbbb26a29f"), looks := true }, kinds := [], alts := [], laidByText := true, laidKinds := [.data, .data, .data, .data, .sentinel, .sentinel, .pinned], laidTests := true, laidLooks := .later }
def LineupHalvesCardSaid : Prop := Claim7.holds Tryz.pinned (.plain (OpenSpec.ofChange lineupHalvesSpec)) lineupHalvesCard

/-- THE SECOND FORM's CARD OF 'dugoutlaw03.LineupOrders'. -/
def lineupOrdersUptoCard : Claim7 := { stood := { row := lineupOrdersUptoRow, standIns := [], harness := (true, "f7a13b5d108b3077dbcdc25e70d23d5a4fa9bfd3f6ff4856ff2303fbbb26a29f"), looks := true }, kinds := [], alts := [], laidByText := true, laidKinds := [.data, .data, .data, .data, .sentinel, .sentinel, .pinned], laidTests := true, laidLooks := .later }
def LineupOrdersUptoCardSaid : Prop := Claim7.holds Tryz.pinned (.plain (OpenSpec.upto lineupOrdersSpec)) lineupOrdersUptoCard

/-- THE SECOND FORM's CARD OF 'dugoutlaw03.LineupTexts'. -/
def lineupTextsUptoCard : Claim7 := { stood := { row := lineupTextsUptoRow, standIns := [], harness := (true, "f7a13b5d108b3077dbcdc25e70d23d5a4fa9bfd3f6ff4856ff2303fbbb26a29f"), looks := true }, kinds := [], alts := [], laidByText := true, laidKinds := [.data, .data, .data, .data, .sentinel, .sentinel, .pinned], laidTests := true, laidLooks := .later }
def LineupTextsUptoCardSaid : Prop := Claim7.holds Tryz.pinned (.plain (OpenSpec.upto lineupTextsSpec)) lineupTextsUptoCard

/-- THE SECOND FORM's CARD OF 'dugoutlaw03.LineupTurns'. -/
def lineupTurnsUptoCard : Claim7 := { stood := { row := lineupTurnsUptoRow, standIns := [], harness := (true, "f7a13b5d108b3077dbcdc25e70d23d5a4fa9bfd3f6ff4856ff2303fbbb26a29f"), looks := true }, kinds := [], alts := [], laidByText := true, laidKinds := [.data, .data, .data, .data, .sentinel, .sentinel, .pinned], laidTests := true, laidLooks := .later }
def LineupTurnsUptoCardSaid : Prop := Claim7.holds Tryz.pinned (.plain (OpenSpec.upto lineupTurnsSpec)) lineupTurnsUptoCard

/-- THE SECOND FORM's CARD OF 'dugoutlaw03.LineupPrints'. -/
def lineupPrintsUptoCard : Claim7 := { stood := { row := lineupPrintsUptoRow, standIns := [], harness := (true, "f7a13b5d108b3077dbcdc25e70d23d5a4fa9bfd3f6ff4856ff2303fbbb26a29f"), looks := true }, kinds := [], alts := [], laidByText := true, laidKinds := [.data, .data, .data, .data, .sentinel, .sentinel, .pinned], laidTests := true, laidLooks := .later }
def LineupPrintsUptoCardSaid : Prop := Claim7.holds Tryz.pinned (.plain (OpenSpec.upto lineupPrintsSpec)) lineupPrintsUptoCard

/-- THE SECOND FORM's CARD OF 'dugoutlaw03.LineupWho'. -/
def lineupWhoUptoCard : Claim7 := { stood := { row := lineupWhoUptoRow, standIns := [], harness := (true, "f7a13b5d108b3077dbcdc25e70d23d5a4fa9bfd3f6ff4856ff2303fbbb26a29f"), looks := true }, kinds := [], alts := [], laidByText := true, laidKinds := [.data, .data, .data, .data, .sentinel, .sentinel, .pinned], laidTests := true, laidLooks := .later }
def LineupWhoUptoCardSaid : Prop := Claim7.holds Tryz.pinned (.plain (OpenSpec.upto lineupWhoSpec)) lineupWhoUptoCard

/-- THE SECOND FORM's CARD OF 'dugoutlaw03.LineupStints'. -/
def lineupStintsUptoCard : Claim7 := { stood := { row := lineupStintsUptoRow, standIns := [], harness := (true, "f7a13b5d108b3077dbcdc25e70d23d5a4fa9bfd3f6ff4856ff2303fbbb26a29f"), looks := true }, kinds := [], alts := [], laidByText := true, laidKinds := [.data, .data, .data, .data, .sentinel, .sentinel, .pinned], laidTests := true, laidLooks := .later }
def LineupStintsUptoCardSaid : Prop := Claim7.holds Tryz.pinned (.plain (OpenSpec.upto lineupStintsSpec)) lineupStintsUptoCard

/-- THE SECOND FORM's CARD OF 'dugoutlaw03.LineupPlayers'. -/
def lineupPlayersUptoCard : Claim7 := { stood := { row := lineupPlayersUptoRow, standIns := [], harness := (true, "f7a13b5d108b3077dbcdc25e70d23d5a4fa9bfd3f6ff4856ff2303fbbb26a29f"), looks := true }, kinds := [], alts := [], laidByText := true, laidKinds := [.data, .data, .data, .data, .sentinel, .sentinel, .pinned], laidTests := true, laidLooks := .later }
def LineupPlayersUptoCardSaid : Prop := Claim7.holds Tryz.pinned (.plain (OpenSpec.upto lineupPlayersSpec)) lineupPlayersUptoCard

/-- THE SECOND FORM's CARD OF 'dugoutlaw03.LineupSteady'. -/
def lineupSteadyUptoCard : Claim7 := { stood := { row := lineupSteadyUptoRow, standIns := [], harness := (true, "f7a13b5d108b3077dbcdc25e70d23d5a4fa9bfd3f6ff4856ff2303fbbb26a29f"), looks := true }, kinds := [], alts := [], laidByText := true, laidKinds := [.data, .data, .data, .data, .sentinel, .sentinel, .pinned], laidTests := true, laidLooks := .later }
def LineupSteadyUptoCardSaid : Prop := Claim7.holds Tryz.pinned (.plain (OpenSpec.upto lineupSteadySpec)) lineupSteadyUptoCard

/-- THE SECOND FORM's CARD OF 'dugoutlaw03.LineupSplits'. -/
def lineupSplitsUptoCard : Claim7 := { stood := { row := lineupSplitsUptoRow, standIns := [], harness := (true, "f7a13b5d108b3077dbcdc25e70d23d5a4fa9bfd3f6ff4856ff2303fbbb26a29f"), looks := true }, kinds := [], alts := [], laidByText := true, laidKinds := [.data, .data, .data, .data, .sentinel, .sentinel, .pinned], laidTests := true, laidLooks := .later }
def LineupSplitsUptoCardSaid : Prop := Claim7.holds Tryz.pinned (.plain (OpenSpec.upto lineupSplitsSpec)) lineupSplitsUptoCard

/-- THE SECOND FORM's CARD OF 'dugoutlaw03.LineupHalves'. -/
def lineupHalvesUptoCard : Claim7 := { stood := { row := lineupHalvesUptoRow, standIns := [], harness := (true, "f7a13b5d108b3077dbcdc25e70d23d5a4fa9bfd3f6ff4856ff2303fbbb26a29f"), looks := true }, kinds := [], alts := [], laidByText := true, laidKinds := [.data, .data, .data, .data, .sentinel, .sentinel, .pinned], laidTests := true, laidLooks := .later }
def LineupHalvesUptoCardSaid : Prop := Claim7.holds Tryz.pinned (.plain (OpenSpec.upto lineupHalvesSpec)) lineupHalvesUptoCard
end Rows
end Go.Proofs.YtmagppkclnebjaaGreatDoor
