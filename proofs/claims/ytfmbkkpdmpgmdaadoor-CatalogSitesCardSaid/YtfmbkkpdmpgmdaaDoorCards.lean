/-
  DERIVED. GIVEN WITH THE SEED: THE CARDS: each row of YtfmbkkpdmpgmdaaDoorRows.lean that lists a variable, with what it lists TIED to the program's text (the seventh form; the later family's looks); each row that meets fmt, with fmt's text TOLD by the authors' own Lean function (tested against real Go, not proved from fmt's source: count such statements apart). THE CARD IS WHAT COUNTS. Prove the row's statement (the work); the ties are given (YtfmbkkpdmpgmdaaDoorTie.lean); close each card by the builder's one call (the guide's Derived/Test/ToyasCard.lean, 'card_holds'). Laid BY PROGRAM, IN A SANDBOX (cutbox-door.mjs). By AI agents, Wed Nov 11 2026. No macro, syntax, notation, axiom, sorry.
-/
import Derived.Test.YtfmbkkpdmpgmdaaDoorRows
import GoSem.ClaimSeven
namespace Go.Proofs.YtfmbkkpdmpgmdaaDoor
namespace Rows

/-- THE TIED CARD OF 'clusterlockslaw05.CatalogNames'. -/
def catalogNamesCard : Claim7 := { stood := { row := catalogNamesRow, standIns := [], harness := (true, "9a890f67bf3e353cfc05ab2f2d4ce1e9640598429599cae647b3aaa74c53f0a1"), looks := true }, kinds := [], alts := [], laidByText := true, laidKinds := [.data, .data, .data], laidTests := true, laidLooks := .later }
def CatalogNamesCardSaid : Prop := Claim7.holds Tryd.pinned (.plain (OpenSpec.ofChange catalogNamesSpec)) catalogNamesCard

/-- THE TIED CARD OF 'clusterlockslaw05.CatalogValid'. -/
def catalogValidCard : Claim7 := { stood := { row := catalogValidRow, standIns := [], harness := (true, "9a890f67bf3e353cfc05ab2f2d4ce1e9640598429599cae647b3aaa74c53f0a1"), looks := true }, kinds := [], alts := [], laidByText := true, laidKinds := [.data, .data, .data], laidTests := true, laidLooks := .later }
def CatalogValidCardSaid : Prop := Claim7.holds Tryd.pinned (.plain (OpenSpec.ofChange catalogValidSpec)) catalogValidCard

/-- THE TIED CARD OF 'clusterlockslaw05.CatalogInserts'. -/
def catalogInsertsCard : Claim7 := { stood := { row := catalogInsertsRow, standIns := [], harness := (true, "9a890f67bf3e353cfc05ab2f2d4ce1e9640598429599cae647b3aaa74c53f0a1"), looks := true }, kinds := [], alts := [], laidByText := true, laidKinds := [.data, .data, .data], laidTests := true, laidLooks := .later }
def CatalogInsertsCardSaid : Prop := Claim7.holds Tryd.pinned (.plain (OpenSpec.ofChange catalogInsertsSpec)) catalogInsertsCard

/-- THE TIED CARD OF 'clusterlockslaw05.CatalogSites'. -/
def catalogSitesCard : Claim7 := { stood := { row := catalogSitesRow, standIns := [], harness := (true, "9a890f67bf3e353cfc05ab2f2d4ce1e9640598429599cae647b3aaa74c53f0a1"), looks := true }, kinds := [], alts := [], laidByText := true, laidKinds := [.data, .data, .data], laidTests := true, laidLooks := .later }
def CatalogSitesCardSaid : Prop := Claim7.holds Tryd.pinned (.plain (OpenSpec.ofChange catalogSitesSpec)) catalogSitesCard

/-- THE TIED CARD OF 'clusterlockslaw05.CatalogScripts'. -/
def catalogScriptsCard : Claim7 := { stood := { row := catalogScriptsRow, standIns := [], harness := (true, "9a890f67bf3e353cfc05ab2f2d4ce1e9640598429599cae647b3aaa74c53f0a1"), looks := true }, kinds := [], alts := [], laidByText := true, laidKinds := [.data, .data, .data], laidTests := true, laidLooks := .later }
def CatalogScriptsCardSaid : Prop := Claim7.holds Tryd.pinned (.plain (OpenSpec.ofChange catalogScriptsSpec)) catalogScriptsCard

/-- THE TIED CARD OF 'clusterlockslaw05.CatalogRemoves'. -/
def catalogRemovesCard : Claim7 := { stood := { row := catalogRemovesRow, standIns := [], harness := (true, "9a890f67bf3e353cfc05ab2f2d4ce1e9640598429599cae647b3aaa74c53f0a1"), looks := true }, kinds := [], alts := [], laidByText := true, laidKinds := [.data, .data, .data], laidTests := true, laidLooks := .later }
def CatalogRemovesCardSaid : Prop := Claim7.holds Tryd.pinned (.plain (OpenSpec.ofChange catalogRemovesSpec)) catalogRemovesCard

/-- THE TIED CARD OF 'clusterlockslaw05.CatalogUndoes'. -/
def catalogUndoesCard : Claim7 := { stood := { row := catalogUndoesRow, standIns := [], harness := (true, "9a890f67bf3e353cfc05ab2f2d4ce1e9640598429599cae647b3aaa74c53f0a1"), looks := true }, kinds := [], alts := [], laidByText := true, laidKinds := [.data, .data, .data], laidTests := true, laidLooks := .later }
def CatalogUndoesCardSaid : Prop := Claim7.holds Tryd.pinned (.plain (OpenSpec.ofChange catalogUndoesSpec)) catalogUndoesCard

/-- THE TIED CARD OF 'clusterlockslaw05.CatalogResolves'. -/
def catalogResolvesCard : Claim7 := { stood := { row := catalogResolvesRow, standIns := [], harness := (true, "9a890f67bf3e353cfc05ab2f2d4ce1e9640598429599cae647b3aaa74c53f0a1"), looks := true }, kinds := [], alts := [], laidByText := true, laidKinds := [.data, .data, .data], laidTests := true, laidLooks := .later }
def CatalogResolvesCardSaid : Prop := Claim7.holds Tryd.pinned (.plain (OpenSpec.ofChange catalogResolvesSpec)) catalogResolvesCard

/-- THE TIED CARD OF 'clusterlockslaw05.CatalogFormats'. -/
def catalogFormatsCard : Claim7 := { stood := { row := catalogFormatsRow, standIns := [], harness := (true, "9a890f67bf3e353cfc05ab2f2d4ce1e9640598429599cae647b3aaa74c53f0a1"), looks := true }, kinds := [], alts := [], laidByText := true, laidKinds := [.data, .data, .data, .data, .sentinel, .sentinel, .pinned], laidTests := true, laidLooks := .later }
def CatalogFormatsCardSaid : Prop := Claim7.holds Tryd.pinned (.plain (OpenSpec.ofChange catalogFormatsSpec)) catalogFormatsCard

/-- THE TIED CARD OF 'clusterlockslaw05.CatalogParses'. -/
def catalogParsesCard : Claim7 := { stood := { row := catalogParsesRow, standIns := [], harness := (true, "9a890f67bf3e353cfc05ab2f2d4ce1e9640598429599cae647b3aaa74c53f0a1"), looks := true }, kinds := [], alts := [], laidByText := true, laidKinds := [.data, .data, .data, .data, .sentinel, .sentinel, .pinned], laidTests := true, laidLooks := .later }
def CatalogParsesCardSaid : Prop := Claim7.holds Tryd.pinned (.plain (OpenSpec.ofChange catalogParsesSpec)) catalogParsesCard

/-- THE SECOND FORM's CARD OF 'clusterlockslaw05.CatalogNames'. -/
def catalogNamesUptoCard : Claim7 := { stood := { row := catalogNamesUptoRow, standIns := [], harness := (true, "9a890f67bf3e353cfc05ab2f2d4ce1e9640598429599cae647b3aaa74c53f0a1"), looks := true }, kinds := [], alts := [], laidByText := true, laidKinds := [.data, .data, .data], laidTests := true, laidLooks := .later }
def CatalogNamesUptoCardSaid : Prop := Claim7.holds Tryd.pinned (.plain (OpenSpec.upto catalogNamesSpec)) catalogNamesUptoCard

/-- THE SECOND FORM's CARD OF 'clusterlockslaw05.CatalogValid'. -/
def catalogValidUptoCard : Claim7 := { stood := { row := catalogValidUptoRow, standIns := [], harness := (true, "9a890f67bf3e353cfc05ab2f2d4ce1e9640598429599cae647b3aaa74c53f0a1"), looks := true }, kinds := [], alts := [], laidByText := true, laidKinds := [.data, .data, .data], laidTests := true, laidLooks := .later }
def CatalogValidUptoCardSaid : Prop := Claim7.holds Tryd.pinned (.plain (OpenSpec.upto catalogValidSpec)) catalogValidUptoCard

/-- THE SECOND FORM's CARD OF 'clusterlockslaw05.CatalogInserts'. -/
def catalogInsertsUptoCard : Claim7 := { stood := { row := catalogInsertsUptoRow, standIns := [], harness := (true, "9a890f67bf3e353cfc05ab2f2d4ce1e9640598429599cae647b3aaa74c53f0a1"), looks := true }, kinds := [], alts := [], laidByText := true, laidKinds := [.data, .data, .data], laidTests := true, laidLooks := .later }
def CatalogInsertsUptoCardSaid : Prop := Claim7.holds Tryd.pinned (.plain (OpenSpec.upto catalogInsertsSpec)) catalogInsertsUptoCard

/-- THE SECOND FORM's CARD OF 'clusterlockslaw05.CatalogSites'. -/
def catalogSitesUptoCard : Claim7 := { stood := { row := catalogSitesUptoRow, standIns := [], harness := (true, "9a890f67bf3e353cfc05ab2f2d4ce1e9640598429599cae647b3aaa74c53f0a1"), looks := true }, kinds := [], alts := [], laidByText := true, laidKinds := [.data, .data, .data], laidTests := true, laidLooks := .later }
def CatalogSitesUptoCardSaid : Prop := Claim7.holds Tryd.pinned (.plain (OpenSpec.upto catalogSitesSpec)) catalogSitesUptoCard

/-- THE SECOND FORM's CARD OF 'clusterlockslaw05.CatalogScripts'. -/
def catalogScriptsUptoCard : Claim7 := { stood := { row := catalogScriptsUptoRow, standIns := [], harness := (true, "9a890f67bf3e353cfc05ab2f2d4ce1e9640598429599cae647b3aaa74c53f0a1"), looks := true }, kinds := [], alts := [], laidByText := true, laidKinds := [.data, .data, .data], laidTests := true, laidLooks := .later }
def CatalogScriptsUptoCardSaid : Prop := Claim7.holds Tryd.pinned (.plain (OpenSpec.upto catalogScriptsSpec)) catalogScriptsUptoCard

/-- THE SECOND FORM's CARD OF 'clusterlockslaw05.CatalogRemoves'. -/
def catalogRemovesUptoCard : Claim7 := { stood := { row := catalogRemovesUptoRow, standIns := [], harness := (true, "9a890f67bf3e353cfc05ab2f2d4ce1e9640598429599cae647b3aaa74c53f0a1"), looks := true }, kinds := [], alts := [], laidByText := true, laidKinds := [.data, .data, .data], laidTests := true, laidLooks := .later }
def CatalogRemovesUptoCardSaid : Prop := Claim7.holds Tryd.pinned (.plain (OpenSpec.upto catalogRemovesSpec)) catalogRemovesUptoCard

/-- THE SECOND FORM's CARD OF 'clusterlockslaw05.CatalogUndoes'. -/
def catalogUndoesUptoCard : Claim7 := { stood := { row := catalogUndoesUptoRow, standIns := [], harness := (true, "9a890f67bf3e353cfc05ab2f2d4ce1e9640598429599cae647b3aaa74c53f0a1"), looks := true }, kinds := [], alts := [], laidByText := true, laidKinds := [.data, .data, .data], laidTests := true, laidLooks := .later }
def CatalogUndoesUptoCardSaid : Prop := Claim7.holds Tryd.pinned (.plain (OpenSpec.upto catalogUndoesSpec)) catalogUndoesUptoCard

/-- THE SECOND FORM's CARD OF 'clusterlockslaw05.CatalogResolves'. -/
def catalogResolvesUptoCard : Claim7 := { stood := { row := catalogResolvesUptoRow, standIns := [], harness := (true, "9a890f67bf3e353cfc05ab2f2d4ce1e9640598429599cae647b3aaa74c53f0a1"), looks := true }, kinds := [], alts := [], laidByText := true, laidKinds := [.data, .data, .data], laidTests := true, laidLooks := .later }
def CatalogResolvesUptoCardSaid : Prop := Claim7.holds Tryd.pinned (.plain (OpenSpec.upto catalogResolvesSpec)) catalogResolvesUptoCard

/-- THE SECOND FORM's CARD OF 'clusterlockslaw05.CatalogFormats'. -/
def catalogFormatsUptoCard : Claim7 := { stood := { row := catalogFormatsUptoRow, standIns := [], harness := (true, "9a890f67bf3e353cfc05ab2f2d4ce1e9640598429599cae647b3aaa74c53f0a1"), looks := true }, kinds := [], alts := [], laidByText := true, laidKinds := [.data, .data, .data, .data, .sentinel, .sentinel, .pinned], laidTests := true, laidLooks := .later }
def CatalogFormatsUptoCardSaid : Prop := Claim7.holds Tryd.pinned (.plain (OpenSpec.upto catalogFormatsSpec)) catalogFormatsUptoCard

/-- THE SECOND FORM's CARD OF 'clusterlockslaw05.CatalogParses'. -/
def catalogParsesUptoCard : Claim7 := { stood := { row := catalogParsesUptoRow, standIns := [], harness := (true, "9a890f67bf3e353cfc05ab2f2d4ce1e9640598429599cae647b3aaa74c53f0a1"), looks := true }, kinds := [], alts := [], laidByText := true, laidKinds := [.data, .data, .data, .data, .sentinel, .sentinel, .pinned], laidTests := true, laidLooks := .later }
def CatalogParsesUptoCardSaid : Prop := Claim7.holds Tryd.pinned (.plain (OpenSpec.upto catalogParsesSpec)) catalogParsesUptoCard
end Rows
end Go.Proofs.YtfmbkkpdmpgmdaaDoor
