/- Part F08 of a proof of statements of chapter 15 (no condition). -/
import Derived.Test.YthpgjkjgkhjjlaaGreatDoorF02
import Derived.Test.YthpgjkjgkhjjlaaGreatDoorF03
import Derived.Test.YthpgjkjgkhjjlaaGreatDoorF04
import Derived.Test.YthpgjkjgkhjjlaaGreatDoorF05
import Derived.Test.YthpgjkjgkhjjlaaGreatDoorF06
import Derived.Test.YthpgjkjgkhjjlaaGreatDoorF07
set_option linter.unusedVariables false
set_option linter.unusedSimpArgs false
set_option maxRecDepth 100000
set_option maxHeartbeats 64000000
namespace Go.Proofs.YthpgjkjgkhjjlaaGreatDoor
open Go.RowKit Go.Proofs.Tryz
section
open Go.ChangeShapes Go.WideShapes Go.ChangeAt
theorem aB {a b:Bool} (h:a=true) (k:b=true):(a && b)=true:=by rw [h,k];rfl
theorem pu:Rows.CentralSettlesSaid :=
 OpenClaim.holds_of_wide 5 f5 rfl rfl rfl rfl rfl rfl rfl ⟨rfl,rfl,rfl,rfl,rfl⟩ rfl rfl rfl rfl rfl (by kernel_rfl) func5 (aB (aB (aB (aB (aB (aB (aB (aB (aB (aB (aB (aB (aB (aB (aB (aB (aB (aB (aB (aB (aB (aB (aB (aB (aB (aB (aB (aB (aB (aB (aB t6 t7) t8) ua) ub) uc) ud) ue) uf) tZ) rv) rx) ry) rz) rA) rB) rC) rD) rE) rF) rG) rH) rI) rJ) rK) rL) rM) rN) rO) rP) rQ) rR)
  (of_decide_eq_true (by kernel_rfl)) (by unfold Func.isWrapper;rw [if_neg (of_decide_eq_false (by kernel_rfl))];exact ⟨rfl,rfl⟩)
  (fun os started H enc _=>mC os started H enc)
end
end Go.Proofs.YthpgjkjgkhjjlaaGreatDoor
