/- Part C08 of a proof of statements of chapter 15 (no condition). -/
import Derived.Test.YthpgjkjgkhjjlaaGreatDoorC02
import Derived.Test.YthpgjkjgkhjjlaaGreatDoorC03
import Derived.Test.YthpgjkjgkhjjlaaGreatDoorC04
import Derived.Test.YthpgjkjgkhjjlaaGreatDoorC05
import Derived.Test.YthpgjkjgkhjjlaaGreatDoorC06
import Derived.Test.YthpgjkjgkhjjlaaGreatDoorC07
set_option linter.unusedVariables false
set_option linter.unusedSimpArgs false
set_option maxRecDepth 100000
set_option maxHeartbeats 64000000
namespace Go.Proofs.YthpgjkjgkhjjlaaGreatDoor
open Go.RowKit Go.Proofs.Tryz
section
open Go.ChangeShapes Go.WideShapes Go.ChangeAt
theorem aF {a b:Bool} (h:a=true) (k:b=true):(a && b)=true:=by rw [h,k];rfl
theorem tI:Rows.CentralTicksSaid :=
 OpenClaim.holds_of_wide 8 f8 rfl rfl rfl rfl rfl rfl rfl ⟨rfl,rfl,rfl,rfl,rfl⟩ rfl rfl rfl rfl rfl (by kernel_rfl) func8 (aF (aF (aF (aF (aF (aF (aF (aF (aF (aF (aF (aF (aF (aF (aF (aF (aF (aF (aF (aF (aF (aF (aF (aF (aF (aF (aF (aF (aF (aF (aF zu zv) zw) zx) zy) zz) zA) zB) zC) zt) vX) vY) vZ) wa) wb) wc) wd) we) wg) wh) wi) wj) wk) wl) wm) wn) wt) wu) wv) ww) wx) wy)
  (of_decide_eq_true (by kernel_rfl)) (by unfold Func.isWrapper;rw [if_neg (of_decide_eq_false (by kernel_rfl))];exact ⟨rfl,rfl⟩)
  (fun os started H enc _=>ow os started H enc)
end
end Go.Proofs.YthpgjkjgkhjjlaaGreatDoor
