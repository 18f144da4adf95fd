/- Part A05 of a proof of statements of chapter 15 (no condition). -/
import Derived.Test.YtkkbopkbjacfmaaGreatDoorChecked
import Derived.Test.YtkkbopkbjacfmaaGreatDoorRows
import Derived.JoinedOf
import Derived.ProofKit
set_option linter.unusedVariables false
set_option linter.unusedSimpArgs false
set_option maxRecDepth 100000
set_option maxHeartbeats 64000000
namespace Go.Proofs.YtkkbopkbjacfmaaGreatDoor
open Go.RowKit Go.Proofs.Tryz
section
open Go.ChangeShapes Go.WideShapes Go.ChangeAt
theorem rollbackAppliesF11:((Rows.rollbackAppliesRow.recurses == prog.recurses 4):Bool)=true:=by kernel_rfl
end
end Go.Proofs.YtkkbopkbjacfmaaGreatDoor
