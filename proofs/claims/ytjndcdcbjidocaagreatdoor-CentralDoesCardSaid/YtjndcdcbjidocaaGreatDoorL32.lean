/- Part 32 of 33 of the proof of centralDoes_holds (no condition). -/
import Derived.Test.YtjndcdcbjidocaaGreatDoorCards
import Derived.Test.YtjndcdcbjidocaaGreatDoorChecked
import Derived.Test.YtjndcdcbjidocaaGreatDoorRows
import Derived.SevenTiedAt
import Derived.ProofKit
set_option linter.unusedVariables false
set_option linter.unusedSimpArgs false
set_option maxRecDepth 100000
set_option maxHeartbeats 64000000
namespace Go.Proofs.YtjndcdcbjidocaaGreatDoor
open Go.RowKit Go.Proofs.Tryz
section
open Go.ChangeShapes Go.WideShapes Go.ChangeAt
theorem s6:Rows.centralDoesRow.wfByText (OpenSpec.ofChange Rows.centralDoesSpec)=true:=by kernel_rfl
theorem s7:prog.mainIs=some (Rows.centralDoesCard.stood.harness.1,Rows.centralDoesCard.stood.harness.2.toList):=by kernel_rfl
theorem s8:(f4.params.toList.all fun u=>!prog.wantsStandIn u)=true:=by kernel_rfl
theorem s9:prog.funcNamed Rows.centralDoesRow.func=some 4:=by kernel_rfl
end
end Go.Proofs.YtjndcdcbjidocaaGreatDoor
