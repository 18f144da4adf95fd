/- Part 27 of 33 of the proof of centralDoes_holds (no condition). -/
import Derived.Test.YtjndcdcbjidocaaGreatDoorChecked
import Derived.Test.YtjndcdcbjidocaaGreatDoorRows
import Derived.JoinedOf
import Derived.ProofKit
set_option linter.unusedVariables false
set_option linter.unusedSimpArgs false
set_option maxRecDepth 100000
set_option maxHeartbeats 64000000
namespace Go.Proofs.YtjndcdcbjidocaaGreatDoor
open Go.RowKit Go.Proofs.Tryz
section
open Go.ChangeShapes Go.WideShapes Go.ChangeAt
theorem rX:((Rows.centralDoesRow.named == prog.varsNamed 4):Bool)=true:=by kernel_rfl
end
end Go.Proofs.YtjndcdcbjidocaaGreatDoor
