/- Part 40 of 56 of the proof of both_hold (no condition). -/
import Derived.Test.YtcgpepnbohejfaaGreatDoorK34
import Derived.Test.YtcgpepnbohejfaaGreatDoorK35
import Derived.Test.YtcgpepnbohejfaaGreatDoorK36
import Derived.Test.YtcgpepnbohejfaaGreatDoorK37
import Derived.Test.YtcgpepnbohejfaaGreatDoorK38
import Derived.Test.YtcgpepnbohejfaaGreatDoorK39
set_option linter.unusedVariables false
set_option linter.unusedSimpArgs false
set_option maxRecDepth 100000
set_option maxHeartbeats 64000000
namespace Go.Proofs.YtcgpepnbohejfaaGreatDoor
open Go.RowKit Go.Proofs.Tryz
section
open Go.ChangeShapes Go.WideShapes Go.ChangeAt
theorem bAnd {a b:Bool} (h:a=true) (k:b=true):(a && b)=true:=by rw [h,k];rfl
theorem n4:Rows.CentralSafeSaid :=
 OpenClaim.holds_of_wide 3 Tryz.f3 rfl rfl rfl rfl rfl rfl rfl ⟨rfl,rfl,rfl,rfl,rfl⟩ rfl rfl rfl rfl rfl (by kernel_rfl) func3 (bAnd (bAnd (bAnd (bAnd (bAnd (bAnd (bAnd (bAnd (bAnd (bAnd (bAnd (bAnd (bAnd (bAnd (bAnd (bAnd (bAnd (bAnd (bAnd (bAnd (bAnd (bAnd (bAnd (bAnd (bAnd (bAnd (bAnd (bAnd (bAnd (bAnd (bAnd rA rB) rC) rD) rE) rF) rG) rH) rI) rz) qm) qn) qo) qp) qr) qs) qt) qu) qv) qw) qz) qA) qB) qC) qD) qE) qF) qG) qH) qI) qJ) qK)
  (of_decide_eq_true (by kernel_rfl)) (by unfold Func.isWrapper;rw [if_neg (of_decide_eq_false (by kernel_rfl))];exact ⟨rfl,rfl⟩)
  (fun os started H enc _=>lg os started H enc)
end
end Go.Proofs.YtcgpepnbohejfaaGreatDoor
