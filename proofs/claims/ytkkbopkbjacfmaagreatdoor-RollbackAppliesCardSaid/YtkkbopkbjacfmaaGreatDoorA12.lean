/- Part A12 of a proof of statements of chapter 15 (no condition). -/
import Derived.Test.YtkkbopkbjacfmaaGreatDoorA08
import Derived.Test.YtkkbopkbjacfmaaGreatDoorA09
import Derived.Test.YtkkbopkbjacfmaaGreatDoorA10
import Derived.Test.YtkkbopkbjacfmaaGreatDoorA11
set_option linter.unusedVariables false
set_option linter.unusedSimpArgs false
set_option maxRecDepth 100000
set_option maxHeartbeats 64000000
namespace Go.Proofs.YtkkbopkbjacfmaaGreatDoor
open Go.RowKit Go.Proofs.Tryz
section
open Go.ChangeShapes Go.WideShapes Go.ChangeAt
theorem rollbackApplies_holds:Rows.RollbackAppliesCardSaid :=
 Claim7.holds_tied_plain_at .later [] [.data] true Rows.rollbackAppliesCard.stood.harness false
  rollbackApplies_row (fun _ h=>by cases h) rollbackAppliesG2 (fun _ h=>by cases h) rollbackApplies_row_tie rfl ⟨rfl,rfl⟩ rollbackAppliesG3 rfl
  (fun f fn hf hfn=>by
   obtain rfl:f=4:=Option.some.inj (rollbackAppliesG5.symm.trans hf) |>.symm;obtain rfl:fn=Tryz.f4:=(Option.some.inj (Tryz.func4.symm.trans hfn)).symm;exact ⟨rollbackAppliesG0,fun j t ht=>by
    have hm:t∈Tryz.f4.params.toList:=Array.mem_toList_iff.2 (Array.mem_of_getElem? ht);have hall:=rollbackAppliesG4;exact show prog.wantsStandIn t=false by simpa using List.all_eq_true.1 hall t hm⟩)
  rollbackAppliesG1
end
end Go.Proofs.YtkkbopkbjacfmaaGreatDoor
