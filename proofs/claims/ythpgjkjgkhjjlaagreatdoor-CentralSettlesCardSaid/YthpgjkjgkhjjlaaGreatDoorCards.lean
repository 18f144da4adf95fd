/-
  DERIVED. GIVEN WITH THE SEED: THE CARDS: each row of YthpgjkjgkhjjlaaGreatDoorRows.lean that lists a variable, with what it lists TIED to the program's text (the seventh form; the later family's looks); each row that meets fmt, with fmt's text TOLD by the authors' own Lean function (tested against real Go, not proved from fmt's source: count such statements apart). THE CARD IS WHAT COUNTS. Prove the row's statement (the work); the ties are given (YthpgjkjgkhjjlaaGreatDoorTie.lean); close each card by the builder's one call (the guide's Derived/Test/ToyasCard.lean, 'card_holds'). Laid BY PROGRAM, IN A SANDBOX (cutbox-door.mjs). By AI agents, Wed Nov 11 2026. No macro, syntax, notation, axiom, sorry.
-/
import Derived.Test.YthpgjkjgkhjjlaaGreatDoorRows
import GoSem.ClaimSeven
namespace Go.Proofs.YthpgjkjgkhjjlaaGreatDoor
namespace Rows

/-- THE TIED CARD OF 'clusterlockslaw15.CentralScripts'. -/
def centralScriptsCard : Claim7 := { stood := { row := centralScriptsRow, standIns := [], harness := (true, "90c00b02d3d1498fda5d74ef4e15204d0a83417744aae46939e9ac71051f251d"), looks := false }, kinds := [], alts := [], laidByText := true, laidKinds := [.data], laidTests := true, laidLooks := .later }
def CentralScriptsCardSaid : Prop := Claim7.holds Tryz.pinned (.plain (OpenSpec.ofChange centralScriptsSpec)) centralScriptsCard

/-- THE TIED CARD OF 'clusterlockslaw15.CentralEvents'. -/
def centralEventsCard : Claim7 := { stood := { row := centralEventsRow, standIns := [], harness := (true, "90c00b02d3d1498fda5d74ef4e15204d0a83417744aae46939e9ac71051f251d"), looks := false }, kinds := [], alts := [], laidByText := true, laidKinds := [.data], laidTests := true, laidLooks := .later }
def CentralEventsCardSaid : Prop := Claim7.holds Tryz.pinned (.plain (OpenSpec.ofChange centralEventsSpec)) centralEventsCard

/-- THE TIED CARD OF 'clusterlockslaw15.CentralSettles'. -/
def centralSettlesCard : Claim7 := { stood := { row := centralSettlesRow, standIns := [], harness := (true, "90c00b02d3d1498fda5d74ef4e15204d0a83417744aae46939e9ac71051f251d"), looks := false }, kinds := [], alts := [], laidByText := true, laidKinds := [.data], laidTests := true, laidLooks := .later }
def CentralSettlesCardSaid : Prop := Claim7.holds Tryz.pinned (.plain (OpenSpec.ofChange centralSettlesSpec)) centralSettlesCard

/-- THE TIED CARD OF 'clusterlockslaw15.CentralCancels'. -/
def centralCancelsCard : Claim7 := { stood := { row := centralCancelsRow, standIns := [], harness := (true, "90c00b02d3d1498fda5d74ef4e15204d0a83417744aae46939e9ac71051f251d"), looks := false }, kinds := [], alts := [], laidByText := true, laidKinds := [.data], laidTests := true, laidLooks := .later }
def CentralCancelsCardSaid : Prop := Claim7.holds Tryz.pinned (.plain (OpenSpec.ofChange centralCancelsSpec)) centralCancelsCard

/-- THE TIED CARD OF 'clusterlockslaw15.CentralRolls'. -/
def centralRollsCard : Claim7 := { stood := { row := centralRollsRow, standIns := [], harness := (true, "90c00b02d3d1498fda5d74ef4e15204d0a83417744aae46939e9ac71051f251d"), looks := false }, kinds := [], alts := [], laidByText := true, laidKinds := [.data], laidTests := true, laidLooks := .later }
def CentralRollsCardSaid : Prop := Claim7.holds Tryz.pinned (.plain (OpenSpec.ofChange centralRollsSpec)) centralRollsCard

/-- THE TIED CARD OF 'clusterlockslaw15.CentralTicks'. -/
def centralTicksCard : Claim7 := { stood := { row := centralTicksRow, standIns := [], harness := (true, "90c00b02d3d1498fda5d74ef4e15204d0a83417744aae46939e9ac71051f251d"), looks := false }, kinds := [], alts := [], laidByText := true, laidKinds := [.data], laidTests := true, laidLooks := .later }
def CentralTicksCardSaid : Prop := Claim7.holds Tryz.pinned (.plain (OpenSpec.ofChange centralTicksSpec)) centralTicksCard

/-- THE TIED CARD OF 'clusterlockslaw15.CentralLimits'. -/
def centralLimitsCard : Claim7 := { stood := { row := centralLimitsRow, standIns := [], harness := (true, "90c00b02d3d1498fda5d74ef4e15204d0a83417744aae46939e9ac71051f251d"), looks := false }, kinds := [], alts := [], laidByText := true, laidKinds := [.data], laidTests := true, laidLooks := .later }
def CentralLimitsCardSaid : Prop := Claim7.holds Tryz.pinned (.plain (OpenSpec.ofChange centralLimitsSpec)) centralLimitsCard

/-- THE SECOND FORM's CARD OF 'clusterlockslaw15.CentralScripts'. -/
def centralScriptsUptoCard : Claim7 := { stood := { row := centralScriptsUptoRow, standIns := [], harness := (true, "90c00b02d3d1498fda5d74ef4e15204d0a83417744aae46939e9ac71051f251d"), looks := false }, kinds := [], alts := [], laidByText := true, laidKinds := [.data], laidTests := true, laidLooks := .later }
def CentralScriptsUptoCardSaid : Prop := Claim7.holds Tryz.pinned (.plain (OpenSpec.upto centralScriptsSpec)) centralScriptsUptoCard

/-- THE SECOND FORM's CARD OF 'clusterlockslaw15.CentralEvents'. -/
def centralEventsUptoCard : Claim7 := { stood := { row := centralEventsUptoRow, standIns := [], harness := (true, "90c00b02d3d1498fda5d74ef4e15204d0a83417744aae46939e9ac71051f251d"), looks := false }, kinds := [], alts := [], laidByText := true, laidKinds := [.data], laidTests := true, laidLooks := .later }
def CentralEventsUptoCardSaid : Prop := Claim7.holds Tryz.pinned (.plain (OpenSpec.upto centralEventsSpec)) centralEventsUptoCard

/-- THE SECOND FORM's CARD OF 'clusterlockslaw15.CentralSettles'. -/
def centralSettlesUptoCard : Claim7 := { stood := { row := centralSettlesUptoRow, standIns := [], harness := (true, "90c00b02d3d1498fda5d74ef4e15204d0a83417744aae46939e9ac71051f251d"), looks := false }, kinds := [], alts := [], laidByText := true, laidKinds := [.data], laidTests := true, laidLooks := .later }
def CentralSettlesUptoCardSaid : Prop := Claim7.holds Tryz.pinned (.plain (OpenSpec.upto centralSettlesSpec)) centralSettlesUptoCard

/-- THE SECOND FORM's CARD OF 'clusterlockslaw15.CentralCancels'. -/
def centralCancelsUptoCard : Claim7 := { stood := { row := centralCancelsUptoRow, standIns := [], harness := (true, "90c00b02d3d1498fda5d74ef4e15204d0a83417744aae46939e9ac71051f251d"), looks := false }, kinds := [], alts := [], laidByText := true, laidKinds := [.data], laidTests := true, laidLooks := .later }
def CentralCancelsUptoCardSaid : Prop := Claim7.holds Tryz.pinned (.plain (OpenSpec.upto centralCancelsSpec)) centralCancelsUptoCard

/-- THE SECOND FORM's CARD OF 'clusterlockslaw15.CentralRolls'. -/
def centralRollsUptoCard : Claim7 := { stood := { row := centralRollsUptoRow, standIns := [], harness := (true, "90c00b02d3d1498fda5d74ef4e15204d0a83417744aae46939e9ac71051f251d"), looks := false }, kinds := [], alts := [], laidByText := true, laidKinds := [.data], laidTests := true, laidLooks := .later }
def CentralRollsUptoCardSaid : Prop := Claim7.holds Tryz.pinned (.plain (OpenSpec.upto centralRollsSpec)) centralRollsUptoCard

/-- THE SECOND FORM's CARD OF 'clusterlockslaw15.CentralTicks'. -/
def centralTicksUptoCard : Claim7 := { stood := { row := centralTicksUptoRow, standIns := [], harness := (true, "90c00b02d3d1498fda5d74ef4e15204d0a83417744aae46939e9ac71051f251d"), looks := false }, kinds := [], alts := [], laidByText := true, laidKinds := [.data], laidTests := true, laidLooks := .later }
def CentralTicksUptoCardSaid : Prop := Claim7.holds Tryz.pinned (.plain (OpenSpec.upto centralTicksSpec)) centralTicksUptoCard

/-- THE SECOND FORM's CARD OF 'clusterlockslaw15.CentralLimits'. -/
def centralLimitsUptoCard : Claim7 := { stood := { row := centralLimitsUptoRow, standIns := [], harness := (true, "90c00b02d3d1498fda5d74ef4e15204d0a83417744aae46939e9ac71051f251d"), looks := false }, kinds := [], alts := [], laidByText := true, laidKinds := [.data], laidTests := true, laidLooks := .later }
def CentralLimitsUptoCardSaid : Prop := Claim7.holds Tryz.pinned (.plain (OpenSpec.upto centralLimitsSpec)) centralLimitsUptoCard
end Rows
end Go.Proofs.YthpgjkjgkhjjlaaGreatDoor
