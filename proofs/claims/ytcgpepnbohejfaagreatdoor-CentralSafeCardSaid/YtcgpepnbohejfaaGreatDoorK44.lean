/- Part 44 of 56 of the proof of both_hold (no condition). -/
import Derived.Test.YtcgpepnbohejfaaGreatDoorK40
import Derived.Test.YtcgpepnbohejfaaGreatDoorK41
import Derived.Test.YtcgpepnbohejfaaGreatDoorK42
import Derived.Test.YtcgpepnbohejfaaGreatDoorK43
set_option linter.unusedVariables false
set_option linter.unusedSimpArgs false
set_option maxRecDepth 100000
set_option maxHeartbeats 64000000
namespace Go.Proofs.YtcgpepnbohejfaaGreatDoor
open Go.RowKit Go.Proofs.Tryz
section
open Go.ChangeShapes Go.WideShapes Go.ChangeAt
theorem centralSafe_holds:Rows.CentralSafeCardSaid :=
 Claim7.holds_tied_plain_at .later [] [.data] true Rows.centralSafeCard.stood.harness false
  n4 (fun _ h=>by cases h) rL (fun _ h=>by cases h) centralSafe_row_tie rfl ⟨rfl,rfl⟩ rM rfl
  (fun f fn hf hfn=>by
   obtain rfl:f=3:=Option.some.inj (rO.symm.trans hf) |>.symm;obtain rfl:fn=Tryz.f3:=(Option.some.inj (func3.symm.trans hfn)).symm;exact ⟨rJ,fun j t ht=>by
    have hm:t∈Tryz.f3.params.toList:=Array.mem_toList_iff.2 (Array.mem_of_getElem? ht);have hall:=rN;exact show prog.wantsStandIn t=false by simpa using List.all_eq_true.1 hall t hm⟩)
  rK
end
end Go.Proofs.YtcgpepnbohejfaaGreatDoor
