/-
  DERIVED. GIVEN WITH THE SEED: THE CARDS: each row of YtambinjjfapcgaaDoorRows.lean that lists a variable, with what it lists TIED to the program's text (the seventh form; the later family's looks); each row that meets fmt, with fmt's text TOLD by the authors' own Lean function (tested against real Go, not proved from fmt's source: count such statements apart). THE CARD IS WHAT COUNTS. Prove the row's statement (the work); the ties are given (YtambinjjfapcgaaDoorTie.lean); close each card by the builder's one call (the guide's Derived/Test/ToyasCard.lean, 'card_holds'). Laid BY PROGRAM, IN A SANDBOX (cutbox-door.mjs). By AI agents, Wed Nov 11 2026. No macro, syntax, notation, axiom, sorry.
-/
import Derived.Test.YtambinjjfapcgaaDoorRows
import GoSem.ClaimSeven
namespace Go.Proofs.YtambinjjfapcgaaDoor
namespace Rows

/-- THE TIED CARD OF 'clusterlockslaw02.IdentSorts'. -/
def identSortsCard : Claim7 := { stood := { row := identSortsRow, standIns := [], harness := (true, "a207de2ccdc58689e31600666483b3c84f28ed5a4abf90168cb51b130f6f9a01"), looks := true }, kinds := [], alts := [], laidByText := true, laidKinds := [.data, .data, .data, .data, .sentinel, .sentinel, .pinned], laidTests := true, laidLooks := .later }
def IdentSortsCardSaid : Prop := Claim7.holds Tryd.pinned (.plain (OpenSpec.ofChange identSortsSpec)) identSortsCard

/-- THE SECOND FORM's CARD OF 'clusterlockslaw02.IdentSorts'. -/
def identSortsUptoCard : Claim7 := { stood := { row := identSortsUptoRow, standIns := [], harness := (true, "a207de2ccdc58689e31600666483b3c84f28ed5a4abf90168cb51b130f6f9a01"), looks := true }, kinds := [], alts := [], laidByText := true, laidKinds := [.data, .data, .data, .data, .sentinel, .sentinel, .pinned], laidTests := true, laidLooks := .later }
def IdentSortsUptoCardSaid : Prop := Claim7.holds Tryd.pinned (.plain (OpenSpec.upto identSortsSpec)) identSortsUptoCard
end Rows
end Go.Proofs.YtambinjjfapcgaaDoor
