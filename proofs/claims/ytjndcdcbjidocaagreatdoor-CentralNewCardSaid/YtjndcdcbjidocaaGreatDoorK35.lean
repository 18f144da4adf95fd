/- Part 35 of 35 of the proof of centralNew_holds (no condition). -/
import Derived.Test.YtjndcdcbjidocaaGreatDoorK31
import Derived.Test.YtjndcdcbjidocaaGreatDoorK32
import Derived.Test.YtjndcdcbjidocaaGreatDoorK33
import Derived.Test.YtjndcdcbjidocaaGreatDoorK34
set_option linter.unusedVariables false
set_option linter.unusedSimpArgs false
set_option maxRecDepth 100000
set_option maxHeartbeats 64000000
namespace Go.Proofs.YtjndcdcbjidocaaGreatDoor
open Go.RowKit Go.Proofs.Tryz
section
open Go.ChangeShapes Go.WideShapes Go.ChangeAt
theorem centralNew_holds:Rows.CentralNewCardSaid :=
 Claim7.holds_tied_plain_at .later [] [.data] true Rows.centralNewCard.stood.harness false
  qW (fun _ h=>by cases h) uR (fun _ h=>by cases h) centralNew_row_tie rfl ⟨rfl,rfl⟩ uS rfl
  (fun f fn hf hfn=>by
   obtain rfl:f=3:=Option.some.inj (uU.symm.trans hf) |>.symm
   obtain rfl:fn=Tryz.f3:=(Option.some.inj (func3.symm.trans hfn)).symm
   exact ⟨uP,fun j t ht=>by
    have hm:t∈Tryz.f3.params.toList:=Array.mem_toList_iff.2 (Array.mem_of_getElem? ht)
    have hall:=uT
    exact show prog.wantsStandIn t=false by simpa using List.all_eq_true.1 hall t hm⟩)
  uQ
end
end Go.Proofs.YtjndcdcbjidocaaGreatDoor
