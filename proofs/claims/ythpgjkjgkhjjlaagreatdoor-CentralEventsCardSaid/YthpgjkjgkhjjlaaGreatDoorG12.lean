/- Part G12 of a proof of statements of chapter 15 (no condition). -/
import Derived.Test.YthpgjkjgkhjjlaaGreatDoorG08
import Derived.Test.YthpgjkjgkhjjlaaGreatDoorG09
import Derived.Test.YthpgjkjgkhjjlaaGreatDoorG10
import Derived.Test.YthpgjkjgkhjjlaaGreatDoorG11
set_option linter.unusedVariables false
set_option linter.unusedSimpArgs false
set_option maxRecDepth 100000
set_option maxHeartbeats 64000000
namespace Go.Proofs.YthpgjkjgkhjjlaaGreatDoor
open Go.RowKit Go.Proofs.Tryz
section
open Go.ChangeShapes Go.WideShapes Go.ChangeAt
theorem centralEventsG5:prog.funcNamed Rows.centralEventsRow.func=some 4:=by kernel_rfl
theorem centralEvents_holds:Rows.CentralEventsCardSaid :=
 Claim7.holds_tied_plain_at .later [] [.data] true Rows.centralEventsCard.stood.harness false
  rS (fun _ h=>by cases h) xh (fun _ h=>by cases h) centralEvents_row_tie rfl ⟨rfl,rfl⟩ xi rfl
  (fun f fn hf hfn=>by
   obtain rfl:f=4:=Option.some.inj (centralEventsG5.symm.trans hf) |>.symm;obtain rfl:fn=f4:=(Option.some.inj (func4.symm.trans hfn)).symm;exact ⟨xf,fun j t ht=>by
    have hm:t∈f4.params.toList:=Array.mem_toList_iff.2 (Array.mem_of_getElem? ht);have hall:=xj;exact show prog.wantsStandIn t=false by simpa using List.all_eq_true.1 hall t hm⟩)
  xg
end
end Go.Proofs.YthpgjkjgkhjjlaaGreatDoor
