/- Part B08 of a proof of statements of chapter 15 (no condition). -/
import Derived.Test.YtkkbopkbjacfmaaGreatDoorB02
import Derived.Test.YtkkbopkbjacfmaaGreatDoorB03
import Derived.Test.YtkkbopkbjacfmaaGreatDoorB04
import Derived.Test.YtkkbopkbjacfmaaGreatDoorB05
import Derived.Test.YtkkbopkbjacfmaaGreatDoorB06
import Derived.Test.YtkkbopkbjacfmaaGreatDoorB07
set_option linter.unusedVariables false
set_option linter.unusedSimpArgs false
set_option maxRecDepth 100000
set_option maxHeartbeats 64000000
namespace Go.Proofs.YtkkbopkbjacfmaaGreatDoor
open Go.RowKit Go.Proofs.Tryz
section
open Go.ChangeShapes Go.WideShapes Go.ChangeAt
theorem aj {a b:Bool} (h:a=true) (k:b=true):(a && b)=true:=by rw [h,k];rfl
theorem oJ:Rows.RollbackLeavesSaid :=
 OpenClaim.holds_of_wide 5 Tryz.f5 rfl rfl rfl rfl rfl rfl rfl ⟨rfl,rfl,rfl,rfl,rfl⟩ rfl rfl rfl rfl rfl (by kernel_rfl) func5 (aj (aj (aj (aj (aj (aj (aj (aj (aj (aj (aj (aj (aj (aj (aj (aj (aj (aj (aj (aj (aj (aj (aj (aj (aj (aj (aj (aj (aj (aj (aj rA rC) rD) rE) rF) rG) rH) rI) rJ) rz) p8) p9) qa) qb) qc) qd) qg) qh) qi) qj) qk) ql) qm) qn) qo) qp) qr) qs) qt) qu) qv) qw)
  (of_decide_eq_true (by kernel_rfl)) (by unfold Func.isWrapper;rw [if_neg (of_decide_eq_false (by kernel_rfl))];exact ⟨rfl,rfl⟩)
  (fun os started H enc _=>lH os started H enc)
end
end Go.Proofs.YtkkbopkbjacfmaaGreatDoor
