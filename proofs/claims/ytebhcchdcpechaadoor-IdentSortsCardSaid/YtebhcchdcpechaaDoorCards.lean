/-
  DERIVED. GIVEN WITH THE SEED: THE CARDS: each row of YtebhcchdcpechaaDoorRows.lean that lists a variable, with what it lists TIED to the program's text (the seventh form; the later family's looks); each row that meets fmt, with fmt's text TOLD by the authors' own Lean function (tested against real Go, not proved from fmt's source: count such statements apart). THE CARD IS WHAT COUNTS. Prove the row's statement (the work); the ties are given (YtebhcchdcpechaaDoorTie.lean); close each card by the builder's one call (the guide's Derived/Test/ToyasCard.lean, 'card_holds'). Laid BY PROGRAM, IN A SANDBOX (cutbox-door.mjs). By AI agents, Wed Nov 11 2026. No macro, syntax, notation, axiom, sorry.
-/
import Derived.Test.YtebhcchdcpechaaDoorRows
import GoSem.ClaimSeven
namespace Go.Proofs.YtebhcchdcpechaaDoor
namespace Rows

/-- THE TIED CARD OF 'clusterlockslaw02.IdentValid'. -/
def identValidCard : Claim7 := { stood := { row := identValidRow, standIns := [], harness := (true, "d8cea11b42323dbf1d3ca4392cde3b0a25057e10c8a5977fcf214ffd5c596a77"), looks := true }, kinds := [], alts := [], laidByText := true, laidKinds := [.data, .data, .data, .data, .sentinel, .sentinel, .pinned], laidTests := true, laidLooks := .later }
def IdentValidCardSaid : Prop := Claim7.holds Tryd.pinned (.plain (OpenSpec.ofChange identValidSpec)) identValidCard

/-- THE TIED CARD OF 'clusterlockslaw02.IdentOrders'. -/
def identOrdersCard : Claim7 := { stood := { row := identOrdersRow, standIns := [], harness := (true, "d8cea11b42323dbf1d3ca4392cde3b0a25057e10c8a5977fcf214ffd5c596a77"), looks := true }, kinds := [], alts := [], laidByText := true, laidKinds := [.data, .data, .data, .data, .sentinel, .sentinel, .pinned], laidTests := true, laidLooks := .later }
def IdentOrdersCardSaid : Prop := Claim7.holds Tryd.pinned (.plain (OpenSpec.ofChange identOrdersSpec)) identOrdersCard

/-- THE TIED CARD OF 'clusterlockslaw02.IdentFormats'. -/
def identFormatsCard : Claim7 := { stood := { row := identFormatsRow, standIns := [], harness := (true, "d8cea11b42323dbf1d3ca4392cde3b0a25057e10c8a5977fcf214ffd5c596a77"), looks := true }, kinds := [], alts := [], laidByText := true, laidKinds := [.data, .data, .data, .data, .sentinel, .sentinel, .pinned], laidTests := true, laidLooks := .later }
def IdentFormatsCardSaid : Prop := Claim7.holds Tryd.pinned (.plain (OpenSpec.ofChange identFormatsSpec)) identFormatsCard

/-- THE TIED CARD OF 'clusterlockslaw02.IdentParses'. -/
def identParsesCard : Claim7 := { stood := { row := identParsesRow, standIns := [], harness := (true, "d8cea11b42323dbf1d3ca4392cde3b0a25057e10c8a5977fcf214ffd5c596a77"), looks := true }, kinds := [], alts := [], laidByText := true, laidKinds := [.data, .data, .data, .data, .sentinel, .sentinel, .pinned], laidTests := true, laidLooks := .later }
def IdentParsesCardSaid : Prop := Claim7.holds Tryd.pinned (.plain (OpenSpec.ofChange identParsesSpec)) identParsesCard

/-- THE TIED CARD OF 'clusterlockslaw02.IdentNext'. -/
def identNextCard : Claim7 := { stood := { row := identNextRow, standIns := [], harness := (true, "d8cea11b42323dbf1d3ca4392cde3b0a25057e10c8a5977fcf214ffd5c596a77"), looks := true }, kinds := [], alts := [], laidByText := true, laidKinds := [.data, .data, .data, .data, .sentinel, .sentinel, .pinned], laidTests := true, laidLooks := .later }
def IdentNextCardSaid : Prop := Claim7.holds Tryd.pinned (.plain (OpenSpec.ofChange identNextSpec)) identNextCard

/-- THE TIED CARD OF 'clusterlockslaw02.IdentNames'. -/
def identNamesCard : Claim7 := { stood := { row := identNamesRow, standIns := [], harness := (true, "d8cea11b42323dbf1d3ca4392cde3b0a25057e10c8a5977fcf214ffd5c596a77"), looks := true }, kinds := [], alts := [], laidByText := true, laidKinds := [.data, .data, .data, .data, .sentinel, .sentinel, .pinned], laidTests := true, laidLooks := .later }
def IdentNamesCardSaid : Prop := Claim7.holds Tryd.pinned (.plain (OpenSpec.ofChange identNamesSpec)) identNamesCard

/-- THE TIED CARD OF 'clusterlockslaw02.IdentCompares'. -/
def identComparesCard : Claim7 := { stood := { row := identComparesRow, standIns := [], harness := (true, "d8cea11b42323dbf1d3ca4392cde3b0a25057e10c8a5977fcf214ffd5c596a77"), looks := true }, kinds := [], alts := [], laidByText := true, laidKinds := [.data, .data, .data, .data, .sentinel, .sentinel, .pinned], laidTests := true, laidLooks := .later }
def IdentComparesCardSaid : Prop := Claim7.holds Tryd.pinned (.plain (OpenSpec.ofChange identComparesSpec)) identComparesCard

/-- THE TIED CARD OF 'clusterlockslaw02.IdentMerges'. -/
def identMergesCard : Claim7 := { stood := { row := identMergesRow, standIns := [], harness := (true, "d8cea11b42323dbf1d3ca4392cde3b0a25057e10c8a5977fcf214ffd5c596a77"), looks := true }, kinds := [], alts := [], laidByText := true, laidKinds := [.data, .data, .data, .data, .sentinel, .sentinel, .pinned], laidTests := true, laidLooks := .later }
def IdentMergesCardSaid : Prop := Claim7.holds Tryd.pinned (.plain (OpenSpec.ofChange identMergesSpec)) identMergesCard

/-- THE TIED CARD OF 'clusterlockslaw02.IdentReads'. -/
def identReadsCard : Claim7 := { stood := { row := identReadsRow, standIns := [], harness := (true, "d8cea11b42323dbf1d3ca4392cde3b0a25057e10c8a5977fcf214ffd5c596a77"), looks := true }, kinds := [], alts := [], laidByText := true, laidKinds := [.data, .data, .data, .data, .sentinel, .sentinel, .pinned], laidTests := true, laidLooks := .later }
def IdentReadsCardSaid : Prop := Claim7.holds Tryd.pinned (.plain (OpenSpec.ofChange identReadsSpec)) identReadsCard

/-- THE TIED CARD OF 'clusterlockslaw02.IdentBytes'. -/
def identBytesCard : Claim7 := { stood := { row := identBytesRow, standIns := [], harness := (true, "d8cea11b42323dbf1d3ca4392cde3b0a25057e10c8a5977fcf214ffd5c596a77"), looks := true }, kinds := [], alts := [], laidByText := true, laidKinds := [.data, .data, .data, .data, .sentinel, .sentinel, .pinned], laidTests := true, laidLooks := .later }
def IdentBytesCardSaid : Prop := Claim7.holds Tryd.pinned (.plain (OpenSpec.ofChange identBytesSpec)) identBytesCard

/-- THE TIED CARD OF 'clusterlockslaw02.IdentSorts'. -/
def identSortsCard : Claim7 := { stood := { row := identSortsRow, standIns := [], harness := (true, "d8cea11b42323dbf1d3ca4392cde3b0a25057e10c8a5977fcf214ffd5c596a77"), looks := true }, kinds := [], alts := [], laidByText := true, laidKinds := [.data, .data, .data, .data, .sentinel, .sentinel, .pinned], laidTests := true, laidLooks := .later }
def IdentSortsCardSaid : Prop := Claim7.holds Tryd.pinned (.plain (OpenSpec.ofChange identSortsSpec)) identSortsCard

/-- THE SECOND FORM's CARD OF 'clusterlockslaw02.IdentValid'. -/
def identValidUptoCard : Claim7 := { stood := { row := identValidUptoRow, standIns := [], harness := (true, "d8cea11b42323dbf1d3ca4392cde3b0a25057e10c8a5977fcf214ffd5c596a77"), looks := true }, kinds := [], alts := [], laidByText := true, laidKinds := [.data, .data, .data, .data, .sentinel, .sentinel, .pinned], laidTests := true, laidLooks := .later }
def IdentValidUptoCardSaid : Prop := Claim7.holds Tryd.pinned (.plain (OpenSpec.upto identValidSpec)) identValidUptoCard

/-- THE SECOND FORM's CARD OF 'clusterlockslaw02.IdentOrders'. -/
def identOrdersUptoCard : Claim7 := { stood := { row := identOrdersUptoRow, standIns := [], harness := (true, "d8cea11b42323dbf1d3ca4392cde3b0a25057e10c8a5977fcf214ffd5c596a77"), looks := true }, kinds := [], alts := [], laidByText := true, laidKinds := [.data, .data, .data, .data, .sentinel, .sentinel, .pinned], laidTests := true, laidLooks := .later }
def IdentOrdersUptoCardSaid : Prop := Claim7.holds Tryd.pinned (.plain (OpenSpec.upto identOrdersSpec)) identOrdersUptoCard

/-- THE SECOND FORM's CARD OF 'clusterlockslaw02.IdentFormats'. -/
def identFormatsUptoCard : Claim7 := { stood := { row := identFormatsUptoRow, standIns := [], harness := (true, "d8cea11b42323dbf1d3ca4392cde3b0a25057e10c8a5977fcf214ffd5c596a77"), looks := true }, kinds := [], alts := [], laidByText := true, laidKinds := [.data, .data, .data, .data, .sentinel, .sentinel, .pinned], laidTests := true, laidLooks := .later }
def IdentFormatsUptoCardSaid : Prop := Claim7.holds Tryd.pinned (.plain (OpenSpec.upto identFormatsSpec)) identFormatsUptoCard

/-- THE SECOND FORM's CARD OF 'clusterlockslaw02.IdentParses'. -/
def identParsesUptoCard : Claim7 := { stood := { row := identParsesUptoRow, standIns := [], harness := (true, "d8cea11b42323dbf1d3ca4392cde3b0a25057e10c8a5977fcf214ffd5c596a77"), looks := true }, kinds := [], alts := [], laidByText := true, laidKinds := [.data, .data, .data, .data, .sentinel, .sentinel, .pinned], laidTests := true, laidLooks := .later }
def IdentParsesUptoCardSaid : Prop := Claim7.holds Tryd.pinned (.plain (OpenSpec.upto identParsesSpec)) identParsesUptoCard

/-- THE SECOND FORM's CARD OF 'clusterlockslaw02.IdentNext'. -/
def identNextUptoCard : Claim7 := { stood := { row := identNextUptoRow, standIns := [], harness := (true, "d8cea11b42323dbf1d3ca4392cde3b0a25057e10c8a5977fcf214ffd5c596a77"), looks := true }, kinds := [], alts := [], laidByText := true, laidKinds := [.data, .data, .data, .data, .sentinel, .sentinel, .pinned], laidTests := true, laidLooks := .later }
def IdentNextUptoCardSaid : Prop := Claim7.holds Tryd.pinned (.plain (OpenSpec.upto identNextSpec)) identNextUptoCard

/-- THE SECOND FORM's CARD OF 'clusterlockslaw02.IdentNames'. -/
def identNamesUptoCard : Claim7 := { stood := { row := identNamesUptoRow, standIns := [], harness := (true, "d8cea11b42323dbf1d3ca4392cde3b0a25057e10c8a5977fcf214ffd5c596a77"), looks := true }, kinds := [], alts := [], laidByText := true, laidKinds := [.data, .data, .data, .data, .sentinel, .sentinel, .pinned], laidTests := true, laidLooks := .later }
def IdentNamesUptoCardSaid : Prop := Claim7.holds Tryd.pinned (.plain (OpenSpec.upto identNamesSpec)) identNamesUptoCard

/-- THE SECOND FORM's CARD OF 'clusterlockslaw02.IdentCompares'. -/
def identComparesUptoCard : Claim7 := { stood := { row := identComparesUptoRow, standIns := [], harness := (true, "d8cea11b42323dbf1d3ca4392cde3b0a25057e10c8a5977fcf214ffd5c596a77"), looks := true }, kinds := [], alts := [], laidByText := true, laidKinds := [.data, .data, .data, .data, .sentinel, .sentinel, .pinned], laidTests := true, laidLooks := .later }
def IdentComparesUptoCardSaid : Prop := Claim7.holds Tryd.pinned (.plain (OpenSpec.upto identComparesSpec)) identComparesUptoCard

/-- THE SECOND FORM's CARD OF 'clusterlockslaw02.IdentMerges'. -/
def identMergesUptoCard : Claim7 := { stood := { row := identMergesUptoRow, standIns := [], harness := (true, "d8cea11b42323dbf1d3ca4392cde3b0a25057e10c8a5977fcf214ffd5c596a77"), looks := true }, kinds := [], alts := [], laidByText := true, laidKinds := [.data, .data, .data, .data, .sentinel, .sentinel, .pinned], laidTests := true, laidLooks := .later }
def IdentMergesUptoCardSaid : Prop := Claim7.holds Tryd.pinned (.plain (OpenSpec.upto identMergesSpec)) identMergesUptoCard

/-- THE SECOND FORM's CARD OF 'clusterlockslaw02.IdentReads'. -/
def identReadsUptoCard : Claim7 := { stood := { row := identReadsUptoRow, standIns := [], harness := (true, "d8cea11b42323dbf1d3ca4392cde3b0a25057e10c8a5977fcf214ffd5c596a77"), looks := true }, kinds := [], alts := [], laidByText := true, laidKinds := [.data, .data, .data, .data, .sentinel, .sentinel, .pinned], laidTests := true, laidLooks := .later }
def IdentReadsUptoCardSaid : Prop := Claim7.holds Tryd.pinned (.plain (OpenSpec.upto identReadsSpec)) identReadsUptoCard

/-- THE SECOND FORM's CARD OF 'clusterlockslaw02.IdentBytes'. -/
def identBytesUptoCard : Claim7 := { stood := { row := identBytesUptoRow, standIns := [], harness := (true, "d8cea11b42323dbf1d3ca4392cde3b0a25057e10c8a5977fcf214ffd5c596a77"), looks := true }, kinds := [], alts := [], laidByText := true, laidKinds := [.data, .data, .data, .data, .sentinel, .sentinel, .pinned], laidTests := true, laidLooks := .later }
def IdentBytesUptoCardSaid : Prop := Claim7.holds Tryd.pinned (.plain (OpenSpec.upto identBytesSpec)) identBytesUptoCard

/-- THE SECOND FORM's CARD OF 'clusterlockslaw02.IdentSorts'. -/
def identSortsUptoCard : Claim7 := { stood := { row := identSortsUptoRow, standIns := [], harness := (true, "d8cea11b42323dbf1d3ca4392cde3b0a25057e10c8a5977fcf214ffd5c596a77"), looks := true }, kinds := [], alts := [], laidByText := true, laidKinds := [.data, .data, .data, .data, .sentinel, .sentinel, .pinned], laidTests := true, laidLooks := .later }
def IdentSortsUptoCardSaid : Prop := Claim7.holds Tryd.pinned (.plain (OpenSpec.upto identSortsSpec)) identSortsUptoCard
end Rows
end Go.Proofs.YtebhcchdcpechaaDoor
