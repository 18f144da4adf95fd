/- Part 54 of 56 of the proof of both_hold (no condition). -/
import Derived.Test.YtcgpepnbohejfaaGreatDoorCards
import Derived.Test.YtcgpepnbohejfaaGreatDoorChecked
import Derived.Test.YtcgpepnbohejfaaGreatDoorRows
import Derived.SevenTiedAt
import Derived.ProofKit
set_option linter.unusedVariables false
set_option linter.unusedSimpArgs false
set_option maxRecDepth 100000
set_option maxHeartbeats 64000000
namespace Go.Proofs.YtcgpepnbohejfaaGreatDoor
open Go.RowKit Go.Proofs.Tryz
section
open Go.ChangeShapes Go.WideShapes Go.ChangeAt
theorem r7:Rows.centralEndsRow.wfByText (OpenSpec.ofChange Rows.centralEndsSpec)=true:=by kernel_rfl
theorem r8:prog.mainIs=some (Rows.centralEndsCard.stood.harness.1,Rows.centralEndsCard.stood.harness.2.toList):=by kernel_rfl
theorem r9:(f4.params.toList.all fun u=>!prog.wantsStandIn u)=true:=by kernel_rfl
theorem sa:prog.funcNamed Rows.centralEndsRow.func=some 4:=by kernel_rfl
end
end Go.Proofs.YtcgpepnbohejfaaGreatDoor
