/-
  DERIVED. GIVEN WITH THE SEED: THE CARDS: each row of YtbjbolpmbdllnaaDoorRows.lean that lists a variable, with what it lists TIED to the program's text (the seventh form; the later family's looks); each row that meets fmt, with fmt's text TOLD by the authors' own Lean function (tested against real Go, not proved from fmt's source: count such statements apart). THE CARD IS WHAT COUNTS. Prove the row's statement (the work); the ties are given (YtbjbolpmbdllnaaDoorTie.lean); close each card by the builder's one call (the guide's Derived/Test/ToyasCard.lean, 'card_holds'). Laid BY PROGRAM, IN A SANDBOX (cutbox-door.mjs). By AI agents, Wed Nov 11 2026. No macro, syntax, notation, axiom, sorry.
-/
import Derived.Test.YtbjbolpmbdllnaaDoorRows
import GoSem.ClaimSeven
namespace Go.Proofs.YtbjbolpmbdllnaaDoor
namespace Rows

/-- THE TIED CARD OF 'clusterlockslaw05.CatalogFormats'. -/
def catalogFormatsCard : Claim7 := { stood := { row := catalogFormatsRow, standIns := [], harness := (true, "724441dce5bd5cb4b87170833a73d0be00dd50ff2cc59fd4939695ad47dacd83"), looks := true }, kinds := [], alts := [], laidByText := true, laidKinds := [.data, .data, .data, .data, .sentinel, .sentinel, .pinned], laidTests := true, laidLooks := .later }
def CatalogFormatsCardSaid : Prop := Claim7.holds Tryd.pinned (.plain (OpenSpec.ofChange catalogFormatsSpec)) catalogFormatsCard

/-- THE TIED CARD OF 'clusterlockslaw05.CatalogParses'. -/
def catalogParsesCard : Claim7 := { stood := { row := catalogParsesRow, standIns := [], harness := (true, "724441dce5bd5cb4b87170833a73d0be00dd50ff2cc59fd4939695ad47dacd83"), looks := true }, kinds := [], alts := [], laidByText := true, laidKinds := [.data, .data, .data, .data, .sentinel, .sentinel, .pinned], laidTests := true, laidLooks := .later }
def CatalogParsesCardSaid : Prop := Claim7.holds Tryd.pinned (.plain (OpenSpec.ofChange catalogParsesSpec)) catalogParsesCard

/-- THE SECOND FORM's CARD OF 'clusterlockslaw05.CatalogFormats'. -/
def catalogFormatsUptoCard : Claim7 := { stood := { row := catalogFormatsUptoRow, standIns := [], harness := (true, "724441dce5bd5cb4b87170833a73d0be00dd50ff2cc59fd4939695ad47dacd83"), looks := true }, kinds := [], alts := [], laidByText := true, laidKinds := [.data, .data, .data, .data, .sentinel, .sentinel, .pinned], laidTests := true, laidLooks := .later }
def CatalogFormatsUptoCardSaid : Prop := Claim7.holds Tryd.pinned (.plain (OpenSpec.upto catalogFormatsSpec)) catalogFormatsUptoCard

/-- THE SECOND FORM's CARD OF 'clusterlockslaw05.CatalogParses'. -/
def catalogParsesUptoCard : Claim7 := { stood := { row := catalogParsesUptoRow, standIns := [], harness := (true, "724441dce5bd5cb4b87170833a73d0be00dd50ff2cc59fd4939695ad47dacd83"), looks := true }, kinds := [], alts := [], laidByText := true, laidKinds := [.data, .data, .data, .data, .sentinel, .sentinel, .pinned], laidTests := true, laidLooks := .later }
def CatalogParsesUptoCardSaid : Prop := Claim7.holds Tryd.pinned (.plain (OpenSpec.upto catalogParsesSpec)) catalogParsesUptoCard
end Rows
end Go.Proofs.YtbjbolpmbdllnaaDoor
