/- Part E12 of a proof of statements of chapter 15 (no condition). -/
import Derived.Test.YthpgjkjgkhjjlaaGreatDoorE08
import Derived.Test.YthpgjkjgkhjjlaaGreatDoorE09
import Derived.Test.YthpgjkjgkhjjlaaGreatDoorE10
import Derived.Test.YthpgjkjgkhjjlaaGreatDoorE11
set_option linter.unusedVariables false
set_option linter.unusedSimpArgs false
set_option maxRecDepth 100000
set_option maxHeartbeats 64000000
namespace Go.Proofs.YthpgjkjgkhjjlaaGreatDoor
open Go.RowKit Go.Proofs.Tryz
section
open Go.ChangeShapes Go.WideShapes Go.ChangeAt
theorem centralRollsG5:prog.funcNamed Rows.centralRollsRow.func=some 7:=by kernel_rfl
theorem centralRolls_holds:Rows.CentralRollsCardSaid :=
 Claim7.holds_tied_plain_at .later [] [.data] true Rows.centralRollsCard.stood.harness false
  tY (fun _ h=>by cases h) zU (fun _ h=>by cases h) centralRolls_row_tie rfl ⟨rfl,rfl⟩ zV rfl
  (fun f fn hf hfn=>by
   obtain rfl:f=7:=Option.some.inj (centralRollsG5.symm.trans hf) |>.symm;obtain rfl:fn=f7:=(Option.some.inj (func7.symm.trans hfn)).symm;exact ⟨zS,fun j t ht=>by
    have hm:t∈f7.params.toList:=Array.mem_toList_iff.2 (Array.mem_of_getElem? ht);have hall:=zW;exact show prog.wantsStandIn t=false by simpa using List.all_eq_true.1 hall t hm⟩)
  zT
end
end Go.Proofs.YthpgjkjgkhjjlaaGreatDoor
