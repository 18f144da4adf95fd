/- Part B11 of a proof of statements of chapter 15 (no condition). -/
import Derived.Test.YtkkbopkbjacfmaaGreatDoorCards
import Derived.Test.YtkkbopkbjacfmaaGreatDoorChecked
import Derived.Test.YtkkbopkbjacfmaaGreatDoorRows
import Derived.SevenTiedAt
import Derived.ProofKit
set_option linter.unusedVariables false
set_option linter.unusedSimpArgs false
set_option maxRecDepth 100000
set_option maxHeartbeats 64000000
namespace Go.Proofs.YtkkbopkbjacfmaaGreatDoor
open Go.RowKit Go.Proofs.Tryz
section
open Go.ChangeShapes Go.WideShapes Go.ChangeAt
theorem rM:Rows.rollbackLeavesRow.wfByText (OpenSpec.ofChange Rows.rollbackLeavesSpec)=true:=by kernel_rfl
theorem rN:prog.mainIs=some (Rows.rollbackLeavesCard.stood.harness.1,Rows.rollbackLeavesCard.stood.harness.2.toList):=by kernel_rfl
theorem rO:(Tryz.f5.params.toList.all fun u=>!prog.wantsStandIn u)=true:=by kernel_rfl
theorem rP:prog.funcNamed Rows.rollbackLeavesRow.func=some 5:=by kernel_rfl
end
end Go.Proofs.YtkkbopkbjacfmaaGreatDoor
