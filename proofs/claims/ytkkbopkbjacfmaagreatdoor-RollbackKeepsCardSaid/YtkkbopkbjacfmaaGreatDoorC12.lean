/- Part C12 of a proof of statements of chapter 15 (no condition). -/
import Derived.Test.YtkkbopkbjacfmaaGreatDoorC08
import Derived.Test.YtkkbopkbjacfmaaGreatDoorC09
import Derived.Test.YtkkbopkbjacfmaaGreatDoorC10
import Derived.Test.YtkkbopkbjacfmaaGreatDoorC11
set_option linter.unusedVariables false
set_option linter.unusedSimpArgs false
set_option maxRecDepth 100000
set_option maxHeartbeats 64000000
namespace Go.Proofs.YtkkbopkbjacfmaaGreatDoor
open Go.RowKit Go.Proofs.Tryz
section
open Go.ChangeShapes Go.WideShapes Go.ChangeAt
theorem rollbackKeeps_holds:Rows.RollbackKeepsCardSaid :=
 Claim7.holds_tied_plain_at .later [] [.data] true Rows.rollbackKeepsCard.stood.harness false
  qz (fun _ h=>by cases h) tK (fun _ h=>by cases h) rollbackKeeps_row_tie rfl ⟨rfl,rfl⟩ tL rfl
  (fun f fn hf hfn=>by
   obtain rfl:f=6:=Option.some.inj (tN.symm.trans hf) |>.symm;obtain rfl:fn=Tryz.f6:=(Option.some.inj (func6.symm.trans hfn)).symm;exact ⟨tI,fun j t ht=>by
    have hm:t∈Tryz.f6.params.toList:=Array.mem_toList_iff.2 (Array.mem_of_getElem? ht);have hall:=tM;exact show prog.wantsStandIn t=false by simpa using List.all_eq_true.1 hall t hm⟩)
  tJ
end
end Go.Proofs.YtkkbopkbjacfmaaGreatDoor
