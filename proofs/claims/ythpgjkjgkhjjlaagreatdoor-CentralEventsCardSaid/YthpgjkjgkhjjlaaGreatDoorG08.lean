/- Part G08 of a proof of statements of chapter 15 (no condition). -/
import Derived.Test.YthpgjkjgkhjjlaaGreatDoorG02
import Derived.Test.YthpgjkjgkhjjlaaGreatDoorG03
import Derived.Test.YthpgjkjgkhjjlaaGreatDoorG04
import Derived.Test.YthpgjkjgkhjjlaaGreatDoorG05
import Derived.Test.YthpgjkjgkhjjlaaGreatDoorG06
import Derived.Test.YthpgjkjgkhjjlaaGreatDoorG07
set_option linter.unusedVariables false
set_option linter.unusedSimpArgs false
set_option maxRecDepth 100000
set_option maxHeartbeats 64000000
namespace Go.Proofs.YthpgjkjgkhjjlaaGreatDoor
open Go.RowKit Go.Proofs.Tryz
section
open Go.ChangeShapes Go.WideShapes Go.ChangeAt
theorem aE {a b:Bool} (h:a=true) (k:b=true):(a && b)=true:=by rw [h,k];rfl
theorem rS:Rows.CentralEventsSaid :=
 OpenClaim.holds_of_wide 4 f4 rfl rfl rfl rfl rfl rfl rfl ⟨rfl,rfl,rfl,rfl,rfl⟩ rfl rfl rfl rfl rfl (by kernel_rfl) func4 (aE (aE (aE (aE (aE (aE (aE (aE (aE (aE (aE (aE (aE (aE (aE (aE (aE (aE (aE (aE (aE (aE (aE (aE (aE (aE (aE (aE (aE (aE (aE wW wX) wY) wZ) xa) xb) xc) xd) xe) wV) ul) um) uo) uq) ur) ut) uu) uv) uw) ux) uy) uz) uA) uB) uC) uD) uE) uF) uG) uH) uI) uJ)
  (of_decide_eq_true (by kernel_rfl)) (by unfold Func.isWrapper;rw [if_neg (of_decide_eq_false (by kernel_rfl))];exact ⟨rfl,rfl⟩)
  (fun os started H enc _=>nM os started H enc)
end
end Go.Proofs.YthpgjkjgkhjjlaaGreatDoor
