/- Part A11 of a proof of statements of chapter 15 (no condition). -/
import Derived.Test.YtkkbopkbjacfmaaGreatDoorCards
import Derived.Test.YtkkbopkbjacfmaaGreatDoorChecked
import Derived.Test.YtkkbopkbjacfmaaGreatDoorRows
import Derived.SevenTiedAt
import Derived.ProofKit
set_option linter.unusedVariables false
set_option linter.unusedSimpArgs false
set_option maxRecDepth 100000
set_option maxHeartbeats 64000000
namespace Go.Proofs.YtkkbopkbjacfmaaGreatDoor
open Go.RowKit Go.Proofs.Tryz
section
open Go.ChangeShapes Go.WideShapes Go.ChangeAt
theorem rollbackAppliesG2:Rows.rollbackAppliesRow.wfByText (OpenSpec.ofChange Rows.rollbackAppliesSpec)=true:=by kernel_rfl
theorem rollbackAppliesG3:prog.mainIs=some (Rows.rollbackAppliesCard.stood.harness.1,Rows.rollbackAppliesCard.stood.harness.2.toList):=by kernel_rfl
theorem rollbackAppliesG4:(Tryz.f4.params.toList.all fun u=>!prog.wantsStandIn u)=true:=by kernel_rfl
theorem rollbackAppliesG5:prog.funcNamed Rows.rollbackAppliesRow.func=some 4:=by kernel_rfl
end
end Go.Proofs.YtkkbopkbjacfmaaGreatDoor
