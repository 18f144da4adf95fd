/- Part A08 of a proof of statements of chapter 15 (no condition). -/
import Derived.Test.YthpgjkjgkhjjlaaGreatDoorA02
import Derived.Test.YthpgjkjgkhjjlaaGreatDoorA03
import Derived.Test.YthpgjkjgkhjjlaaGreatDoorA04
import Derived.Test.YthpgjkjgkhjjlaaGreatDoorA05
import Derived.Test.YthpgjkjgkhjjlaaGreatDoorA06
import Derived.Test.YthpgjkjgkhjjlaaGreatDoorA07
set_option linter.unusedVariables false
set_option linter.unusedSimpArgs false
set_option maxRecDepth 100000
set_option maxHeartbeats 64000000
namespace Go.Proofs.YthpgjkjgkhjjlaaGreatDoor
open Go.RowKit Go.Proofs.Tryz
section
open Go.ChangeShapes Go.WideShapes Go.ChangeAt
theorem az {a b:Bool} (h:a=true) (k:b=true):(a && b)=true:=by rw [h,k];rfl
theorem pq:Rows.CentralScriptsSaid :=
 OpenClaim.holds_of_wide 3 Tryz.f3 rfl rfl rfl rfl rfl rfl rfl ⟨rfl,rfl,rfl,rfl,rfl⟩ rfl rfl rfl rfl rfl (by kernel_rfl) func3 (az (az (az (az (az (az (az (az (az (az (az (az (az (az (az (az (az (az (az (az (az (az (az (az (az (az (az (az (az (az (az sW sX) sY) sZ) s5) s6) s7) s8) s9) sV) qB) qC) qD) qE) qF) qG) qH) qI) qJ) qK) qL) qM) qN) qO) qP) qQ) qR) qS) qT) qU) qV) qW)
  (of_decide_eq_true (by kernel_rfl)) (by unfold Func.isWrapper;rw [if_neg (of_decide_eq_false (by kernel_rfl))];exact ⟨rfl,rfl⟩)
  (fun os started H enc _=>mA os started H enc)
end
end Go.Proofs.YthpgjkjgkhjjlaaGreatDoor
