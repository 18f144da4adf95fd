/- Part 31 of 35 of the proof of centralNew_holds (no condition). -/
import Derived.Test.YtjndcdcbjidocaaGreatDoorK25
import Derived.Test.YtjndcdcbjidocaaGreatDoorK26
import Derived.Test.YtjndcdcbjidocaaGreatDoorK27
import Derived.Test.YtjndcdcbjidocaaGreatDoorK28
import Derived.Test.YtjndcdcbjidocaaGreatDoorK29
import Derived.Test.YtjndcdcbjidocaaGreatDoorK30
set_option linter.unusedVariables false
set_option linter.unusedSimpArgs false
set_option maxRecDepth 100000
set_option maxHeartbeats 64000000
namespace Go.Proofs.YtjndcdcbjidocaaGreatDoor
open Go.RowKit Go.Proofs.Tryz
section
open Go.ChangeShapes Go.WideShapes Go.ChangeAt
theorem eS {a b:Bool} (h:a=true) (k:b=true):(a && b)=true:=by rw [h,k];rfl
theorem qW:Rows.CentralNewSaid :=
 OpenClaim.holds_of_wide 3 Tryz.f3 rfl rfl rfl rfl rfl rfl rfl ⟨rfl,rfl,rfl,rfl,rfl⟩ rfl rfl rfl rfl rfl (by kernel_rfl) func3 (eS (eS (eS (eS (eS (eS (eS (eS (eS (eS (eS (eS (eS (eS (eS (eS (eS (eS (eS (eS (eS (eS (eS (eS (eS (eS (eS (eS (eS (eS (eS uF uG) uH) uI) uJ) uL) uM) uN) uO) uE) rt) ru) rv) rx) ry) rz) rA) rB) rC) rD) rE) rF) rG) rH) rI) rJ) rK) rL) rM) rN) rO) rP)
  (of_decide_eq_true (by kernel_rfl)) (by unfold Func.isWrapper;rw [if_neg (of_decide_eq_false (by kernel_rfl))];exact ⟨rfl,rfl⟩)
  (fun os started H enc _=>mX os started H enc)
end
end Go.Proofs.YtjndcdcbjidocaaGreatDoor
