/-
  DERIVED. GIVEN WITH THE SEED: THE CARDS: each row of YtcgpepnbohejfaaGreatDoorRows.lean that lists a variable, with what it lists TIED to the program's text (the seventh form; the later family's looks); each row that meets fmt, with fmt's text TOLD by the authors' own Lean function (tested against real Go, not proved from fmt's source: count such statements apart). THE CARD IS WHAT COUNTS. Prove the row's statement (the work); the ties are given (YtcgpepnbohejfaaGreatDoorTie.lean); close each card by the builder's one call (the guide's Derived/Test/ToyasCard.lean, 'card_holds'). Laid BY PROGRAM, IN A SANDBOX (cutbox-door.mjs). By AI agents, Wed Nov 11 2026. No macro, syntax, notation, axiom, sorry.
-/
import Derived.Test.YtcgpepnbohejfaaGreatDoorRows
import GoSem.ClaimSeven
namespace Go.Proofs.YtcgpepnbohejfaaGreatDoor
namespace Rows

/-- THE TIED CARD OF 'clusterlockslaw15.CentralSafe'. -/
def centralSafeCard : Claim7 := { stood := { row := centralSafeRow, standIns := [], harness := (true, "b4d83548d7b964584ed73f1c6f1eb201e693d5e3a767ff27c120dc521fce408c"), looks := false }, kinds := [], alts := [], laidByText := true, laidKinds := [.data], laidTests := true, laidLooks := .later }
def CentralSafeCardSaid : Prop := Claim7.holds Tryz.pinned (.plain (OpenSpec.ofChange centralSafeSpec)) centralSafeCard

/-- THE TIED CARD OF 'clusterlockslaw15.CentralEnds'. -/
def centralEndsCard : Claim7 := { stood := { row := centralEndsRow, standIns := [], harness := (true, "b4d83548d7b964584ed73f1c6f1eb201e693d5e3a767ff27c120dc521fce408c"), looks := false }, kinds := [], alts := [], laidByText := true, laidKinds := [.data], laidTests := true, laidLooks := .later }
def CentralEndsCardSaid : Prop := Claim7.holds Tryz.pinned (.plain (OpenSpec.ofChange centralEndsSpec)) centralEndsCard

/-- THE SECOND FORM's CARD OF 'clusterlockslaw15.CentralSafe'. -/
def centralSafeUptoCard : Claim7 := { stood := { row := centralSafeUptoRow, standIns := [], harness := (true, "b4d83548d7b964584ed73f1c6f1eb201e693d5e3a767ff27c120dc521fce408c"), looks := false }, kinds := [], alts := [], laidByText := true, laidKinds := [.data], laidTests := true, laidLooks := .later }
def CentralSafeUptoCardSaid : Prop := Claim7.holds Tryz.pinned (.plain (OpenSpec.upto centralSafeSpec)) centralSafeUptoCard

/-- THE SECOND FORM's CARD OF 'clusterlockslaw15.CentralEnds'. -/
def centralEndsUptoCard : Claim7 := { stood := { row := centralEndsUptoRow, standIns := [], harness := (true, "b4d83548d7b964584ed73f1c6f1eb201e693d5e3a767ff27c120dc521fce408c"), looks := false }, kinds := [], alts := [], laidByText := true, laidKinds := [.data], laidTests := true, laidLooks := .later }
def CentralEndsUptoCardSaid : Prop := Claim7.holds Tryz.pinned (.plain (OpenSpec.upto centralEndsSpec)) centralEndsUptoCard
end Rows
end Go.Proofs.YtcgpepnbohejfaaGreatDoor
