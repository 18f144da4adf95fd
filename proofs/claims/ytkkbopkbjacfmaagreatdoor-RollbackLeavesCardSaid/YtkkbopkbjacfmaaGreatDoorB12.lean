/- Part B12 of a proof of statements of chapter 15 (no condition). -/
import Derived.Test.YtkkbopkbjacfmaaGreatDoorB08
import Derived.Test.YtkkbopkbjacfmaaGreatDoorB09
import Derived.Test.YtkkbopkbjacfmaaGreatDoorB10
import Derived.Test.YtkkbopkbjacfmaaGreatDoorB11
set_option linter.unusedVariables false
set_option linter.unusedSimpArgs false
set_option maxRecDepth 100000
set_option maxHeartbeats 64000000
namespace Go.Proofs.YtkkbopkbjacfmaaGreatDoor
open Go.RowKit Go.Proofs.Tryz
section
open Go.ChangeShapes Go.WideShapes Go.ChangeAt
theorem rollbackLeaves_holds:Rows.RollbackLeavesCardSaid :=
 Claim7.holds_tied_plain_at .later [] [.data] true Rows.rollbackLeavesCard.stood.harness false
  oJ (fun _ h=>by cases h) rM (fun _ h=>by cases h) rollbackLeaves_row_tie rfl ⟨rfl,rfl⟩ rN rfl
  (fun f fn hf hfn=>by
   obtain rfl:f=5:=Option.some.inj (rP.symm.trans hf) |>.symm;obtain rfl:fn=Tryz.f5:=(Option.some.inj (func5.symm.trans hfn)).symm;exact ⟨rK,fun j t ht=>by
    have hm:t∈Tryz.f5.params.toList:=Array.mem_toList_iff.2 (Array.mem_of_getElem? ht);have hall:=rO;exact show prog.wantsStandIn t=false by simpa using List.all_eq_true.1 hall t hm⟩)
  rL
end
end Go.Proofs.YtkkbopkbjacfmaaGreatDoor
