/-
  DERIVED. GIVEN WITH THE SEED: THE CARDS: each row of YtkkbopkbjacfmaaGreatDoorRows.lean that lists a variable, with what it lists TIED to the program's text (the seventh form; the later family's looks); each row that meets fmt, with fmt's text TOLD by the authors' own Lean function (tested against real Go, not proved from fmt's source: count such statements apart). THE CARD IS WHAT COUNTS. Prove the row's statement (the work); the ties are given (YtkkbopkbjacfmaaGreatDoorTie.lean); close each card by the builder's one call (the guide's Derived/Test/ToyasCard.lean, 'card_holds'). Laid BY PROGRAM, IN A SANDBOX (cutbox-door.mjs). By AI agents, Wed Nov 11 2026. No macro, syntax, notation, axiom, sorry.
-/
import Derived.Test.YtkkbopkbjacfmaaGreatDoorRows
import GoSem.ClaimSeven
namespace Go.Proofs.YtkkbopkbjacfmaaGreatDoor
namespace Rows

/-- THE TIED CARD OF 'clusterlockslaw19.WaitgraphStates'. -/
def waitgraphStatesCard : Claim7 := { stood := { row := waitgraphStatesRow, standIns := [], harness := (true, "8f46705a63c7eb440bc972216dea370f868b9c7bfa9d64ee52f3019420e42300"), looks := false }, kinds := [], alts := [], laidByText := true, laidKinds := [.data], laidTests := true, laidLooks := .later }
def WaitgraphStatesCardSaid : Prop := Claim7.holds Tryz.pinned (.plain (OpenSpec.ofChange waitgraphStatesSpec)) waitgraphStatesCard

/-- THE TIED CARD OF 'clusterlockslaw21.RollbackApplies'. -/
def rollbackAppliesCard : Claim7 := { stood := { row := rollbackAppliesRow, standIns := [], harness := (true, "8f46705a63c7eb440bc972216dea370f868b9c7bfa9d64ee52f3019420e42300"), looks := false }, kinds := [], alts := [], laidByText := true, laidKinds := [.data], laidTests := true, laidLooks := .later }
def RollbackAppliesCardSaid : Prop := Claim7.holds Tryz.pinned (.plain (OpenSpec.ofChange rollbackAppliesSpec)) rollbackAppliesCard

/-- THE TIED CARD OF 'clusterlockslaw21.RollbackLeaves'. -/
def rollbackLeavesCard : Claim7 := { stood := { row := rollbackLeavesRow, standIns := [], harness := (true, "8f46705a63c7eb440bc972216dea370f868b9c7bfa9d64ee52f3019420e42300"), looks := false }, kinds := [], alts := [], laidByText := true, laidKinds := [.data], laidTests := true, laidLooks := .later }
def RollbackLeavesCardSaid : Prop := Claim7.holds Tryz.pinned (.plain (OpenSpec.ofChange rollbackLeavesSpec)) rollbackLeavesCard

/-- THE TIED CARD OF 'clusterlockslaw21.RollbackKeeps'. -/
def rollbackKeepsCard : Claim7 := { stood := { row := rollbackKeepsRow, standIns := [], harness := (true, "8f46705a63c7eb440bc972216dea370f868b9c7bfa9d64ee52f3019420e42300"), looks := false }, kinds := [], alts := [], laidByText := true, laidKinds := [.data], laidTests := true, laidLooks := .later }
def RollbackKeepsCardSaid : Prop := Claim7.holds Tryz.pinned (.plain (OpenSpec.ofChange rollbackKeepsSpec)) rollbackKeepsCard

/-- THE SECOND FORM's CARD OF 'clusterlockslaw19.WaitgraphStates'. -/
def waitgraphStatesUptoCard : Claim7 := { stood := { row := waitgraphStatesUptoRow, standIns := [], harness := (true, "8f46705a63c7eb440bc972216dea370f868b9c7bfa9d64ee52f3019420e42300"), looks := false }, kinds := [], alts := [], laidByText := true, laidKinds := [.data], laidTests := true, laidLooks := .later }
def WaitgraphStatesUptoCardSaid : Prop := Claim7.holds Tryz.pinned (.plain (OpenSpec.upto waitgraphStatesSpec)) waitgraphStatesUptoCard

/-- THE SECOND FORM's CARD OF 'clusterlockslaw21.RollbackApplies'. -/
def rollbackAppliesUptoCard : Claim7 := { stood := { row := rollbackAppliesUptoRow, standIns := [], harness := (true, "8f46705a63c7eb440bc972216dea370f868b9c7bfa9d64ee52f3019420e42300"), looks := false }, kinds := [], alts := [], laidByText := true, laidKinds := [.data], laidTests := true, laidLooks := .later }
def RollbackAppliesUptoCardSaid : Prop := Claim7.holds Tryz.pinned (.plain (OpenSpec.upto rollbackAppliesSpec)) rollbackAppliesUptoCard

/-- THE SECOND FORM's CARD OF 'clusterlockslaw21.RollbackLeaves'. -/
def rollbackLeavesUptoCard : Claim7 := { stood := { row := rollbackLeavesUptoRow, standIns := [], harness := (true, "8f46705a63c7eb440bc972216dea370f868b9c7bfa9d64ee52f3019420e42300"), looks := false }, kinds := [], alts := [], laidByText := true, laidKinds := [.data], laidTests := true, laidLooks := .later }
def RollbackLeavesUptoCardSaid : Prop := Claim7.holds Tryz.pinned (.plain (OpenSpec.upto rollbackLeavesSpec)) rollbackLeavesUptoCard

/-- THE SECOND FORM's CARD OF 'clusterlockslaw21.RollbackKeeps'. -/
def rollbackKeepsUptoCard : Claim7 := { stood := { row := rollbackKeepsUptoRow, standIns := [], harness := (true, "8f46705a63c7eb440bc972216dea370f868b9c7bfa9d64ee52f3019420e42300"), looks := false }, kinds := [], alts := [], laidByText := true, laidKinds := [.data], laidTests := true, laidLooks := .later }
def RollbackKeepsUptoCardSaid : Prop := Claim7.holds Tryz.pinned (.plain (OpenSpec.upto rollbackKeepsSpec)) rollbackKeepsUptoCard
end Rows
end Go.Proofs.YtkkbopkbjacfmaaGreatDoor
