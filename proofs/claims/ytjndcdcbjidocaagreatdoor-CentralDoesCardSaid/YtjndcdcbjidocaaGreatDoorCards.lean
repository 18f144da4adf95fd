/-
  DERIVED. GIVEN WITH THE SEED: THE CARDS: each row of YtjndcdcbjidocaaGreatDoorRows.lean that lists a variable, with what it lists TIED to the program's text (the seventh form; the later family's looks); each row that meets fmt, with fmt's text TOLD by the authors' own Lean function (tested against real Go, not proved from fmt's source: count such statements apart). THE CARD IS WHAT COUNTS. Prove the row's statement (the work); the ties are given (YtjndcdcbjidocaaGreatDoorTie.lean); close each card by the builder's one call (the guide's Derived/Test/ToyasCard.lean, 'card_holds'). Laid BY PROGRAM, IN A SANDBOX (cutbox-door.mjs). By AI agents, Wed Nov 11 2026. No macro, syntax, notation, axiom, sorry.
-/
import Derived.Test.YtjndcdcbjidocaaGreatDoorRows
import GoSem.ClaimSeven
namespace Go.Proofs.YtjndcdcbjidocaaGreatDoor
namespace Rows

/-- THE TIED CARD OF 'clusterlockslaw15.CentralNew'. -/
def centralNewCard : Claim7 := { stood := { row := centralNewRow, standIns := [], harness := (true, "109778ea5f033e295938d8df751faaea76a7a793b6347ce487771920f7ede566"), looks := false }, kinds := [], alts := [], laidByText := true, laidKinds := [.data], laidTests := true, laidLooks := .later }
def CentralNewCardSaid : Prop := Claim7.holds Tryz.pinned (.plain (OpenSpec.ofChange centralNewSpec)) centralNewCard

/-- THE TIED CARD OF 'clusterlockslaw15.CentralDoes'. -/
def centralDoesCard : Claim7 := { stood := { row := centralDoesRow, standIns := [], harness := (true, "109778ea5f033e295938d8df751faaea76a7a793b6347ce487771920f7ede566"), looks := false }, kinds := [], alts := [], laidByText := true, laidKinds := [.data], laidTests := true, laidLooks := .later }
def CentralDoesCardSaid : Prop := Claim7.holds Tryz.pinned (.plain (OpenSpec.ofChange centralDoesSpec)) centralDoesCard

/-- THE SECOND FORM's CARD OF 'clusterlockslaw15.CentralNew'. -/
def centralNewUptoCard : Claim7 := { stood := { row := centralNewUptoRow, standIns := [], harness := (true, "109778ea5f033e295938d8df751faaea76a7a793b6347ce487771920f7ede566"), looks := false }, kinds := [], alts := [], laidByText := true, laidKinds := [.data], laidTests := true, laidLooks := .later }
def CentralNewUptoCardSaid : Prop := Claim7.holds Tryz.pinned (.plain (OpenSpec.upto centralNewSpec)) centralNewUptoCard

/-- THE SECOND FORM's CARD OF 'clusterlockslaw15.CentralDoes'. -/
def centralDoesUptoCard : Claim7 := { stood := { row := centralDoesUptoRow, standIns := [], harness := (true, "109778ea5f033e295938d8df751faaea76a7a793b6347ce487771920f7ede566"), looks := false }, kinds := [], alts := [], laidByText := true, laidKinds := [.data], laidTests := true, laidLooks := .later }
def CentralDoesUptoCardSaid : Prop := Claim7.holds Tryz.pinned (.plain (OpenSpec.upto centralDoesSpec)) centralDoesUptoCard
end Rows
end Go.Proofs.YtjndcdcbjidocaaGreatDoor
