/- Part D08 of a proof of statements of chapter 15 (no condition). -/
import Derived.Test.YthpgjkjgkhjjlaaGreatDoorD02
import Derived.Test.YthpgjkjgkhjjlaaGreatDoorD03
import Derived.Test.YthpgjkjgkhjjlaaGreatDoorD04
import Derived.Test.YthpgjkjgkhjjlaaGreatDoorD05
import Derived.Test.YthpgjkjgkhjjlaaGreatDoorD06
import Derived.Test.YthpgjkjgkhjjlaaGreatDoorD07
set_option linter.unusedVariables false
set_option linter.unusedSimpArgs false
set_option maxRecDepth 100000
set_option maxHeartbeats 64000000
namespace Go.Proofs.YthpgjkjgkhjjlaaGreatDoor
open Go.RowKit Go.Proofs.Tryz
section
open Go.ChangeShapes Go.WideShapes Go.ChangeAt
theorem aA {a b:Bool} (h:a=true) (k:b=true):(a && b)=true:=by rw [h,k];rfl
theorem pt:Rows.CentralCancelsSaid :=
 OpenClaim.holds_of_wide 6 Tryz.f6 rfl rfl rfl rfl rfl rfl rfl ⟨rfl,rfl,rfl,rfl,rfl⟩ rfl rfl rfl rfl rfl (by kernel_rfl) func6 (aA (aA (aA (aA (aA (aA (aA (aA (aA (aA (aA (aA (aA (aA (aA (aA (aA (aA (aA (aA (aA (aA (aA (aA (aA (aA (aA (aA (aA (aA (aA tK tL) tM) tN) tO) tP) tQ) tR) tS) tJ) qZ) q7) q9) ra) rb) rc) rd) re) rf) rg) rh) ri) rj) rk) rl) rm) rn) ro) rp) rr) rt) ru)
  (of_decide_eq_true (by kernel_rfl)) (by unfold Func.isWrapper;rw [if_neg (of_decide_eq_false (by kernel_rfl))];exact ⟨rfl,rfl⟩)
  (fun os started H enc _=>mB os started H enc)
end
end Go.Proofs.YthpgjkjgkhjjlaaGreatDoor
