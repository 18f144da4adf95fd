/-
  DERIVED. GIVEN WITH THE SEED: THE CARDS: each row of YtogeihdfmnohnaaGreatDoorRows.lean that lists a variable, with what it lists TIED to the program's text (the seventh form; the later family's looks); each row that meets fmt, with fmt's text TOLD by the authors' own Lean function (tested against real Go, not proved from fmt's source: count such statements apart). THE CARD IS WHAT COUNTS. Prove the row's statement (the work); the ties are given (YtogeihdfmnohnaaGreatDoorTie.lean); close each card by the builder's one call (the guide's Derived/Test/ToyasCard.lean, 'card_holds'). Laid BY PROGRAM, IN A SANDBOX (cutbox-door.mjs). By AI agents, Wed Nov 11 2026. No macro, syntax, notation, axiom, sorry.
-/
import Derived.Test.YtogeihdfmnohnaaGreatDoorRows
import GoSem.ClaimSeven
namespace Go.Proofs.YtogeihdfmnohnaaGreatDoor
namespace Rows

/-- THE TIED CARD OF 'clusterlockslaw19.WaitgraphOf'. -/
def waitgraphOfCard : Claim7 := { stood := { row := waitgraphOfRow, standIns := [], harness := (true, "1cf0141a44c50a18fe48940598c7e5c61afcbc98d6874d659b5ba9f24f4e5efd"), looks := false }, kinds := [], alts := [], laidByText := true, laidKinds := [.data], laidTests := true, laidLooks := .later }
def WaitgraphOfCardSaid : Prop := Claim7.holds Tryz.pinned (.plain (OpenSpec.ofChange waitgraphOfSpec)) waitgraphOfCard

/-- THE SECOND FORM's CARD OF 'clusterlockslaw19.WaitgraphOf'. -/
def waitgraphOfUptoCard : Claim7 := { stood := { row := waitgraphOfUptoRow, standIns := [], harness := (true, "1cf0141a44c50a18fe48940598c7e5c61afcbc98d6874d659b5ba9f24f4e5efd"), looks := false }, kinds := [], alts := [], laidByText := true, laidKinds := [.data], laidTests := true, laidLooks := .later }
def WaitgraphOfUptoCardSaid : Prop := Claim7.holds Tryz.pinned (.plain (OpenSpec.upto waitgraphOfSpec)) waitgraphOfUptoCard
end Rows
end Go.Proofs.YtogeihdfmnohnaaGreatDoor
