/- Part C11 of a proof of statements of chapter 15 (no condition). -/
import Derived.Test.YtkkbopkbjacfmaaGreatDoorCards
import Derived.Test.YtkkbopkbjacfmaaGreatDoorChecked
import Derived.Test.YtkkbopkbjacfmaaGreatDoorRows
import Derived.SevenTiedAt
import Derived.ProofKit
set_option linter.unusedVariables false
set_option linter.unusedSimpArgs false
set_option maxRecDepth 100000
set_option maxHeartbeats 64000000
namespace Go.Proofs.YtkkbopkbjacfmaaGreatDoor
open Go.RowKit Go.Proofs.Tryz
section
open Go.ChangeShapes Go.WideShapes Go.ChangeAt
theorem tK:Rows.rollbackKeepsRow.wfByText (OpenSpec.ofChange Rows.rollbackKeepsSpec)=true:=by kernel_rfl
theorem tL:prog.mainIs=some (Rows.rollbackKeepsCard.stood.harness.1,Rows.rollbackKeepsCard.stood.harness.2.toList):=by kernel_rfl
theorem tM:(Tryz.f6.params.toList.all fun u=>!prog.wantsStandIn u)=true:=by kernel_rfl
theorem tN:prog.funcNamed Rows.rollbackKeepsRow.func=some 6:=by kernel_rfl
end
end Go.Proofs.YtkkbopkbjacfmaaGreatDoor
