/- Part 51 of 56 of the proof of both_hold (no condition). -/
import Derived.Test.YtcgpepnbohejfaaGreatDoorK45
import Derived.Test.YtcgpepnbohejfaaGreatDoorK46
import Derived.Test.YtcgpepnbohejfaaGreatDoorK47
import Derived.Test.YtcgpepnbohejfaaGreatDoorK48
import Derived.Test.YtcgpepnbohejfaaGreatDoorK49
import Derived.Test.YtcgpepnbohejfaaGreatDoorK50
set_option linter.unusedVariables false
set_option linter.unusedSimpArgs false
set_option maxRecDepth 100000
set_option maxHeartbeats 64000000
namespace Go.Proofs.YtcgpepnbohejfaaGreatDoor
open Go.RowKit Go.Proofs.Tryz
section
open Go.ChangeShapes Go.WideShapes Go.ChangeAt
theorem bK {a b:Bool} (h:a=true) (k:b=true):(a && b)=true:=by rw [h,k];rfl
theorem n5:Rows.CentralEndsSaid :=
 OpenClaim.holds_of_wide 4 f4 rfl rfl rfl rfl rfl rfl rfl ⟨rfl,rfl,rfl,rfl,rfl⟩ rfl rfl rfl rfl rfl (by kernel_rfl) func4 (bK (bK (bK (bK (bK (bK (bK (bK (bK (bK (bK (bK (bK (bK (bK (bK (bK (bK (bK (bK (bK (bK (bK (bK (bK (bK (bK (bK (bK (bK (bK rQ rR) rS) rT) rU) rV) rW) rX) rY) rP) qL) qM) qN) qO) qP) qQ) qR) qS) qT) qU) qV) qW) qX) qY) qZ) q7) q9) ra) rb) rc) rd) re)
  (of_decide_eq_true (by kernel_rfl)) (by unfold Func.isWrapper;rw [if_neg (of_decide_eq_false (by kernel_rfl))];exact ⟨rfl,rfl⟩)
  (fun os started H enc _=>lh os started H enc)
end
end Go.Proofs.YtcgpepnbohejfaaGreatDoor
