/- Part 43 of 56 of the proof of both_hold (no condition). -/
import Derived.Test.YtcgpepnbohejfaaGreatDoorCards
import Derived.Test.YtcgpepnbohejfaaGreatDoorChecked
import Derived.Test.YtcgpepnbohejfaaGreatDoorRows
import Derived.SevenTiedAt
import Derived.ProofKit
set_option linter.unusedVariables false
set_option linter.unusedSimpArgs false
set_option maxRecDepth 100000
set_option maxHeartbeats 64000000
namespace Go.Proofs.YtcgpepnbohejfaaGreatDoor
open Go.RowKit Go.Proofs.Tryz
section
open Go.ChangeShapes Go.WideShapes Go.ChangeAt
theorem rL:Rows.centralSafeRow.wfByText (OpenSpec.ofChange Rows.centralSafeSpec)=true:=by kernel_rfl
theorem rM:prog.mainIs=some (Rows.centralSafeCard.stood.harness.1,Rows.centralSafeCard.stood.harness.2.toList):=by kernel_rfl
theorem rN:(Tryz.f3.params.toList.all fun u=>!prog.wantsStandIn u)=true:=by kernel_rfl
theorem rO:prog.funcNamed Rows.centralSafeRow.func=some 3:=by kernel_rfl
end
end Go.Proofs.YtcgpepnbohejfaaGreatDoor
