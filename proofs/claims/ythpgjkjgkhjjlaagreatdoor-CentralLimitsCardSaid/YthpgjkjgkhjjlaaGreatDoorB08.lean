/- Part B08 of a proof of statements of chapter 15 (no condition). -/
import Derived.Test.YthpgjkjgkhjjlaaGreatDoorB02
import Derived.Test.YthpgjkjgkhjjlaaGreatDoorB03
import Derived.Test.YthpgjkjgkhjjlaaGreatDoorB04
import Derived.Test.YthpgjkjgkhjjlaaGreatDoorB05
import Derived.Test.YthpgjkjgkhjjlaaGreatDoorB06
import Derived.Test.YthpgjkjgkhjjlaaGreatDoorB07
set_option linter.unusedVariables false
set_option linter.unusedSimpArgs false
set_option maxRecDepth 100000
set_option maxHeartbeats 64000000
namespace Go.Proofs.YthpgjkjgkhjjlaaGreatDoor
open Go.RowKit Go.Proofs.Tryz
section
open Go.ChangeShapes Go.WideShapes Go.ChangeAt
theorem aD {a b:Bool} (h:a=true) (k:b=true):(a && b)=true:=by rw [h,k];rfl
theorem qY:Rows.CentralLimitsSaid :=
 OpenClaim.holds_of_wide 9 f9 rfl rfl rfl rfl rfl rfl rfl ⟨rfl,rfl,rfl,rfl,rfl⟩ rfl rfl rfl rfl rfl (by kernel_rfl) func9 (aD (aD (aD (aD (aD (aD (aD (aD (aD (aD (aD (aD (aD (aD (aD (aD (aD (aD (aD (aD (aD (aD (aD (aD (aD (aD (aD (aD (aD (aD (aD vJ vK) vL) vM) vN) vO) vP) vQ) vR) vI) tg) th) tj) tk) tl) tm) tn) toZ) tq) tt) tu) tw) tx) tz) tA) tB) tC) tD) tE) tF) tG) tH)
  (of_decide_eq_true (by kernel_rfl)) (by unfold Func.isWrapper;rw [if_neg (of_decide_eq_false (by kernel_rfl))];exact ⟨rfl,rfl⟩)
  (fun os started H enc _=>nL os started H enc)
end
end Go.Proofs.YthpgjkjgkhjjlaaGreatDoor
