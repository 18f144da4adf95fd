/- Part E08 of a proof of statements of chapter 15 (no condition). -/
import Derived.Test.YthpgjkjgkhjjlaaGreatDoorE02
import Derived.Test.YthpgjkjgkhjjlaaGreatDoorE03
import Derived.Test.YthpgjkjgkhjjlaaGreatDoorE04
import Derived.Test.YthpgjkjgkhjjlaaGreatDoorE05
import Derived.Test.YthpgjkjgkhjjlaaGreatDoorE06
import Derived.Test.YthpgjkjgkhjjlaaGreatDoorE07
set_option linter.unusedVariables false
set_option linter.unusedSimpArgs false
set_option maxRecDepth 100000
set_option maxHeartbeats 64000000
namespace Go.Proofs.YthpgjkjgkhjjlaaGreatDoor
open Go.RowKit Go.Proofs.Tryz
section
open Go.ChangeShapes Go.WideShapes Go.ChangeAt
theorem aG {a b:Bool} (h:a=true) (k:b=true):(a && b)=true:=by rw [h,k];rfl
theorem tY:Rows.CentralRollsSaid :=
 OpenClaim.holds_of_wide 7 f7 rfl rfl rfl rfl rfl rfl rfl ⟨rfl,rfl,rfl,rfl,rfl⟩ rfl rfl rfl rfl rfl (by kernel_rfl) func7 (aG (aG (aG (aG (aG (aG (aG (aG (aG (aG (aG (aG (aG (aG (aG (aG (aG (aG (aG (aG (aG (aG (aG (aG (aG (aG (aG (aG (aG (aG (aG zJ zK) zL) zM) zN) zO) zP) zQ) zR) zI) wz) wA) wB) wC) wD) wE) wF) wG) wH) wI) wJ) wK) wL) wM) wN) wO) wP) wQ) wR) wS) wT) wU)
  (of_decide_eq_true (by kernel_rfl)) (by unfold Func.isWrapper;rw [if_neg (of_decide_eq_false (by kernel_rfl))];exact ⟨rfl,rfl⟩)
  (fun os started H enc _=>ox os started H enc)
end
end Go.Proofs.YthpgjkjgkhjjlaaGreatDoor
