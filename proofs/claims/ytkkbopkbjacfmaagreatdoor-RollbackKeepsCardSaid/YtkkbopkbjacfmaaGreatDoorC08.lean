/- Part C08 of a proof of statements of chapter 15 (no condition). -/
import Derived.Test.YtkkbopkbjacfmaaGreatDoorC02
import Derived.Test.YtkkbopkbjacfmaaGreatDoorC03
import Derived.Test.YtkkbopkbjacfmaaGreatDoorC04
import Derived.Test.YtkkbopkbjacfmaaGreatDoorC05
import Derived.Test.YtkkbopkbjacfmaaGreatDoorC06
import Derived.Test.YtkkbopkbjacfmaaGreatDoorC07
set_option linter.unusedVariables false
set_option linter.unusedSimpArgs false
set_option maxRecDepth 100000
set_option maxHeartbeats 64000000
namespace Go.Proofs.YtkkbopkbjacfmaaGreatDoor
open Go.RowKit Go.Proofs.Tryz
section
open Go.ChangeShapes Go.WideShapes Go.ChangeAt
theorem ap {a b:Bool} (h:a=true) (k:b=true):(a && b)=true:=by rw [h,k];rfl
theorem qz:Rows.RollbackKeepsSaid :=
 OpenClaim.holds_of_wide 6 Tryz.f6 rfl rfl rfl rfl rfl rfl rfl ⟨rfl,rfl,rfl,rfl,rfl⟩ rfl rfl rfl rfl rfl (by kernel_rfl) func6 (ap (ap (ap (ap (ap (ap (ap (ap (ap (ap (ap (ap (ap (ap (ap (ap (ap (ap (ap (ap (ap (ap (ap (ap (ap (ap (ap (ap (ap (ap (ap tz tA) tB) tC) tD) tE) tF) tG) tH) tx) rQ) rR) rS) rT) rU) rV) rW) rX) rY) rZ) r7) r8) r9) sa) sd) se) sg) si) sj) sk) sm) so)
  (of_decide_eq_true (by kernel_rfl)) (by unfold Func.isWrapper;rw [if_neg (of_decide_eq_false (by kernel_rfl))];exact ⟨rfl,rfl⟩)
  (fun os started H enc _=>mD os started H enc)
end
end Go.Proofs.YtkkbopkbjacfmaaGreatDoor
