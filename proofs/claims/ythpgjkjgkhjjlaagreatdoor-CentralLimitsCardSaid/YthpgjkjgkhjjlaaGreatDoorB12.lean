/- Part B12 of a proof of statements of chapter 15 (no condition). -/
import Derived.Test.YthpgjkjgkhjjlaaGreatDoorB08
import Derived.Test.YthpgjkjgkhjjlaaGreatDoorB09
import Derived.Test.YthpgjkjgkhjjlaaGreatDoorB10
import Derived.Test.YthpgjkjgkhjjlaaGreatDoorB11
set_option linter.unusedVariables false
set_option linter.unusedSimpArgs false
set_option maxRecDepth 100000
set_option maxHeartbeats 64000000
namespace Go.Proofs.YthpgjkjgkhjjlaaGreatDoor
open Go.RowKit Go.Proofs.Tryz
section
open Go.ChangeShapes Go.WideShapes Go.ChangeAt
theorem centralLimitsG5:prog.funcNamed Rows.centralLimitsRow.func=some 9:=by kernel_rfl
theorem centralLimits_holds:Rows.CentralLimitsCardSaid :=
 Claim7.holds_tied_plain_at .later [] [.data] true Rows.centralLimitsCard.stood.harness false
  qY (fun _ h=>by cases h) vU (fun _ h=>by cases h) centralLimits_row_tie rfl ⟨rfl,rfl⟩ vV rfl
  (fun f fn hf hfn=>by
   obtain rfl:f=9:=Option.some.inj (centralLimitsG5.symm.trans hf) |>.symm;obtain rfl:fn=f9:=(Option.some.inj (func9.symm.trans hfn)).symm;exact ⟨vS,fun j t ht=>by
    have hm:t∈f9.params.toList:=Array.mem_toList_iff.2 (Array.mem_of_getElem? ht);have hall:=vW;exact show prog.wantsStandIn t=false by simpa using List.all_eq_true.1 hall t hm⟩)
  vT
end
end Go.Proofs.YthpgjkjgkhjjlaaGreatDoor
