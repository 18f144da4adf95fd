/- Part 47 of 56 of the proof of both_hold (no condition). -/
import Derived.Test.YtcgpepnbohejfaaGreatDoorChecked
import Derived.Test.YtcgpepnbohejfaaGreatDoorRows
import Derived.JoinedOf
import Derived.ProofKit
set_option linter.unusedVariables false
set_option linter.unusedSimpArgs false
set_option maxRecDepth 100000
set_option maxHeartbeats 64000000
namespace Go.Proofs.YtcgpepnbohejfaaGreatDoor
open Go.RowKit Go.Proofs.Tryz
section
open Go.ChangeShapes Go.WideShapes Go.ChangeAt
theorem qL:((Rows.centralEndsRow.unfollowed == prog.unfollowed 4):Bool)=true:=by kernel_rfl
end
end Go.Proofs.YtcgpepnbohejfaaGreatDoor
