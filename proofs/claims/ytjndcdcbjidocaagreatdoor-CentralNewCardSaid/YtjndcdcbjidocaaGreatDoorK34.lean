/- Part 34 of 35 of the proof of centralNew_holds (no condition). -/
import Derived.Test.YtjndcdcbjidocaaGreatDoorCards
import Derived.Test.YtjndcdcbjidocaaGreatDoorChecked
import Derived.Test.YtjndcdcbjidocaaGreatDoorRows
import Derived.SevenTiedAt
import Derived.ProofKit
set_option linter.unusedVariables false
set_option linter.unusedSimpArgs false
set_option maxRecDepth 100000
set_option maxHeartbeats 64000000
namespace Go.Proofs.YtjndcdcbjidocaaGreatDoor
open Go.RowKit Go.Proofs.Tryz
section
open Go.ChangeShapes Go.WideShapes Go.ChangeAt
theorem uR:Rows.centralNewRow.wfByText (OpenSpec.ofChange Rows.centralNewSpec)=true:=by kernel_rfl
theorem uS:prog.mainIs=some (Rows.centralNewCard.stood.harness.1,Rows.centralNewCard.stood.harness.2.toList):=by kernel_rfl
theorem uT:(Tryz.f3.params.toList.all fun u=>!prog.wantsStandIn u)=true:=by kernel_rfl
theorem uU:prog.funcNamed Rows.centralNewRow.func=some 3:=by kernel_rfl
end
end Go.Proofs.YtjndcdcbjidocaaGreatDoor
