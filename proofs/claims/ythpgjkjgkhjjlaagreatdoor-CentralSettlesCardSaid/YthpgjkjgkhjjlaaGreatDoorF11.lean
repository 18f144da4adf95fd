/- Part F11 of a proof of statements of chapter 15 (no condition). -/
import Derived.Test.YthpgjkjgkhjjlaaGreatDoorCards
import Derived.Test.YthpgjkjgkhjjlaaGreatDoorChecked
import Derived.Test.YthpgjkjgkhjjlaaGreatDoorRows
import Derived.SevenTiedAt
import Derived.ProofKit
set_option linter.unusedVariables false
set_option linter.unusedSimpArgs false
set_option maxRecDepth 100000
set_option maxHeartbeats 64000000
namespace Go.Proofs.YthpgjkjgkhjjlaaGreatDoor
open Go.RowKit Go.Proofs.Tryz
section
open Go.ChangeShapes Go.WideShapes Go.ChangeAt
theorem ui:Rows.centralSettlesRow.wfByText (OpenSpec.ofChange Rows.centralSettlesSpec)=true:=by kernel_rfl
theorem uj:prog.mainIs=some (Rows.centralSettlesCard.stood.harness.1,Rows.centralSettlesCard.stood.harness.2.toList):=by kernel_rfl
theorem uk:(f5.params.toList.all fun u=>!prog.wantsStandIn u)=true:=by kernel_rfl
end
end Go.Proofs.YthpgjkjgkhjjlaaGreatDoor
