/- Part 29 of 33 of the proof of centralDoes_holds (no condition). -/
import Derived.Test.YtjndcdcbjidocaaGreatDoorL23
import Derived.Test.YtjndcdcbjidocaaGreatDoorL24
import Derived.Test.YtjndcdcbjidocaaGreatDoorL25
import Derived.Test.YtjndcdcbjidocaaGreatDoorL26
import Derived.Test.YtjndcdcbjidocaaGreatDoorL27
import Derived.Test.YtjndcdcbjidocaaGreatDoorL28
set_option linter.unusedVariables false
set_option linter.unusedSimpArgs false
set_option maxRecDepth 100000
set_option maxHeartbeats 64000000
namespace Go.Proofs.YtjndcdcbjidocaaGreatDoor
open Go.RowKit Go.Proofs.Tryz
section
open Go.ChangeShapes Go.WideShapes Go.ChangeAt
theorem fD {a b:Bool} (h:a=true) (k:b=true):(a && b)=true:=by rw [h,k];rfl
theorem pY:Rows.CentralDoesSaid :=
 OpenClaim.holds_of_wide 4 f4 rfl rfl rfl rfl rfl rfl rfl ⟨rfl,rfl,rfl,rfl,rfl⟩ rfl rfl rfl rfl rfl (by kernel_rfl) func4 (fD (fD (fD (fD (fD (fD (fD (fD (fD (fD (fD (fD (fD (fD (fD (fD (fD (fD (fD (fD (fD (fD (fD (fD (fD (fD (fD (fD (fD (fD (fD sQ sR) sS) sU) sV) sW) sX) sY) sZ) sP) rV) rW) rX) rY) rZ) r7) r8) r9) sa) sb) sd) se) sg) sj) sk) sm) so) sq) sr) su) sw) sy)
  (of_decide_eq_true (by kernel_rfl)) (by unfold Func.isWrapper;rw [if_neg (of_decide_eq_false (by kernel_rfl))];exact ⟨rfl,rfl⟩)
  (fun os started H enc _=>na os started H enc)
end
end Go.Proofs.YtjndcdcbjidocaaGreatDoor
