/- Part D12 of a proof of statements of chapter 15 (no condition). -/
import Derived.Test.YthpgjkjgkhjjlaaGreatDoorD08
import Derived.Test.YthpgjkjgkhjjlaaGreatDoorD09
import Derived.Test.YthpgjkjgkhjjlaaGreatDoorD10
import Derived.Test.YthpgjkjgkhjjlaaGreatDoorD11
set_option linter.unusedVariables false
set_option linter.unusedSimpArgs false
set_option maxRecDepth 100000
set_option maxHeartbeats 64000000
namespace Go.Proofs.YthpgjkjgkhjjlaaGreatDoor
open Go.RowKit Go.Proofs.Tryz
section
open Go.ChangeShapes Go.WideShapes Go.ChangeAt
theorem centralCancelsG5:prog.funcNamed Rows.centralCancelsRow.func=some 6:=by kernel_rfl
theorem centralCancels_holds:Rows.CentralCancelsCardSaid :=
 Claim7.holds_tied_plain_at .later [] [.data] true Rows.centralCancelsCard.stood.harness false
  pt (fun _ h=>by cases h) tV (fun _ h=>by cases h) centralCancels_row_tie rfl ⟨rfl,rfl⟩ tW rfl
  (fun f fn hf hfn=>by
   obtain rfl:f=6:=Option.some.inj (centralCancelsG5.symm.trans hf) |>.symm;obtain rfl:fn=Tryz.f6:=(Option.some.inj (func6.symm.trans hfn)).symm;exact ⟨tT,fun j t ht=>by
    have hm:t∈Tryz.f6.params.toList:=Array.mem_toList_iff.2 (Array.mem_of_getElem? ht);have hall:=tX;exact show prog.wantsStandIn t=false by simpa using List.all_eq_true.1 hall t hm⟩)
  tU
end
end Go.Proofs.YthpgjkjgkhjjlaaGreatDoor
