/- Part 55 of 56 of the proof of both_hold (no condition). -/
import Derived.Test.YtcgpepnbohejfaaGreatDoorK51
import Derived.Test.YtcgpepnbohejfaaGreatDoorK52
import Derived.Test.YtcgpepnbohejfaaGreatDoorK53
import Derived.Test.YtcgpepnbohejfaaGreatDoorK54
set_option linter.unusedVariables false
set_option linter.unusedSimpArgs false
set_option maxRecDepth 100000
set_option maxHeartbeats 64000000
namespace Go.Proofs.YtcgpepnbohejfaaGreatDoor
open Go.RowKit Go.Proofs.Tryz
section
open Go.ChangeShapes Go.WideShapes Go.ChangeAt
theorem centralEnds_holds:Rows.CentralEndsCardSaid :=
 Claim7.holds_tied_plain_at .later [] [.data] true Rows.centralEndsCard.stood.harness false
  n5 (fun _ h=>by cases h) r7 (fun _ h=>by cases h) centralEnds_row_tie rfl ⟨rfl,rfl⟩ r8 rfl
  (fun f fn hf hfn=>by
   obtain rfl:f=4:=Option.some.inj (sa.symm.trans hf) |>.symm;obtain rfl:fn=f4:=(Option.some.inj (func4.symm.trans hfn)).symm;exact ⟨rZ,fun j t ht=>by
    have hm:t∈f4.params.toList:=Array.mem_toList_iff.2 (Array.mem_of_getElem? ht);have hall:=r9;exact show prog.wantsStandIn t=false by simpa using List.all_eq_true.1 hall t hm⟩)
  r6
end
end Go.Proofs.YtcgpepnbohejfaaGreatDoor
