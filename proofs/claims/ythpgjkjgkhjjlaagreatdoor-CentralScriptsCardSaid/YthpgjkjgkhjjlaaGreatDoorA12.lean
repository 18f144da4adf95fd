/- Part A12 of a proof of statements of chapter 15 (no condition). -/
import Derived.Test.YthpgjkjgkhjjlaaGreatDoorA08
import Derived.Test.YthpgjkjgkhjjlaaGreatDoorA09
import Derived.Test.YthpgjkjgkhjjlaaGreatDoorA10
import Derived.Test.YthpgjkjgkhjjlaaGreatDoorA11
set_option linter.unusedVariables false
set_option linter.unusedSimpArgs false
set_option maxRecDepth 100000
set_option maxHeartbeats 64000000
namespace Go.Proofs.YthpgjkjgkhjjlaaGreatDoor
open Go.RowKit Go.Proofs.Tryz
section
open Go.ChangeShapes Go.WideShapes Go.ChangeAt
theorem centralScriptsG5:prog.funcNamed Rows.centralScriptsRow.func=some 3:=by kernel_rfl
theorem centralScripts_holds:Rows.CentralScriptsCardSaid :=
 Claim7.holds_tied_plain_at .later [] [.data] true Rows.centralScriptsCard.stood.harness false
  pq (fun _ h=>by cases h) td (fun _ h=>by cases h) centralScripts_row_tie rfl ⟨rfl,rfl⟩ te rfl
  (fun f fn hf hfn=>by
   obtain rfl:f=3:=Option.some.inj (centralScriptsG5.symm.trans hf) |>.symm;obtain rfl:fn=Tryz.f3:=(Option.some.inj (func3.symm.trans hfn)).symm;exact ⟨ta,fun j t ht=>by
    have hm:t∈Tryz.f3.params.toList:=Array.mem_toList_iff.2 (Array.mem_of_getElem? ht);have hall:=tf;exact show prog.wantsStandIn t=false by simpa using List.all_eq_true.1 hall t hm⟩)
  tc
end
end Go.Proofs.YthpgjkjgkhjjlaaGreatDoor
