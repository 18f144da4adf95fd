/- Part A08 of a proof of statements of chapter 15 (no condition). -/
import Derived.Test.YtkkbopkbjacfmaaGreatDoorA02
import Derived.Test.YtkkbopkbjacfmaaGreatDoorA03
import Derived.Test.YtkkbopkbjacfmaaGreatDoorA04
import Derived.Test.YtkkbopkbjacfmaaGreatDoorA05
import Derived.Test.YtkkbopkbjacfmaaGreatDoorA06
import Derived.Test.YtkkbopkbjacfmaaGreatDoorA07
set_option linter.unusedVariables false
set_option linter.unusedSimpArgs false
set_option maxRecDepth 100000
set_option maxHeartbeats 64000000
namespace Go.Proofs.YtkkbopkbjacfmaaGreatDoor
open Go.RowKit
section
open Go.ChangeShapes Go.WideShapes Go.ChangeAt
theorem rollbackAppliesAnd {a b:Bool} (h:a=true) (k:b=true):(a && b)=true:=by rw [h,k];rfl
theorem rollbackApplies_row:Rows.RollbackAppliesSaid :=
 OpenClaim.holds_of_wide 4 Tryz.f4 rfl rfl rfl rfl rfl rfl rfl ⟨rfl,rfl,rfl,rfl,rfl⟩ rfl rfl rfl rfl rfl (by kernel_rfl) Tryz.func4 (rollbackAppliesAnd (rollbackAppliesAnd (rollbackAppliesAnd (rollbackAppliesAnd (rollbackAppliesAnd (rollbackAppliesAnd (rollbackAppliesAnd (rollbackAppliesAnd (rollbackAppliesAnd (rollbackAppliesAnd (rollbackAppliesAnd (rollbackAppliesAnd (rollbackAppliesAnd (rollbackAppliesAnd (rollbackAppliesAnd (rollbackAppliesAnd (rollbackAppliesAnd (rollbackAppliesAnd (rollbackAppliesAnd (rollbackAppliesAnd (rollbackAppliesAnd (rollbackAppliesAnd (rollbackAppliesAnd (rollbackAppliesAnd (rollbackAppliesAnd (rollbackAppliesAnd (rollbackAppliesAnd (rollbackAppliesAnd (rollbackAppliesAnd (rollbackAppliesAnd (rollbackAppliesAnd rollbackAppliesF0 rollbackAppliesF1) rollbackAppliesF2) rollbackAppliesF3) rollbackAppliesF4) rollbackAppliesF5) rollbackAppliesF6) rollbackAppliesF7) rollbackAppliesF8) rollbackAppliesF9) rollbackAppliesF10) rollbackAppliesF11) rollbackAppliesF12) rollbackAppliesF13) rollbackAppliesF14) rollbackAppliesF15) rollbackAppliesF16) rollbackAppliesF17) rollbackAppliesF18) rollbackAppliesF19) rollbackAppliesF20) rollbackAppliesF21) rollbackAppliesF22) rollbackAppliesF23) rollbackAppliesF24) rollbackAppliesF25) rollbackAppliesF26) rollbackAppliesF27) rollbackAppliesF28) rollbackAppliesF29) rollbackAppliesF30) rollbackAppliesF31)
  (of_decide_eq_true (by kernel_rfl)) (by unfold Func.isWrapper;rw [if_neg (of_decide_eq_false (by kernel_rfl))];exact ⟨rfl,rfl⟩)
  (fun os started H enc _=>rollbackApplies_lifted os started H enc)
end
end Go.Proofs.YtkkbopkbjacfmaaGreatDoor
