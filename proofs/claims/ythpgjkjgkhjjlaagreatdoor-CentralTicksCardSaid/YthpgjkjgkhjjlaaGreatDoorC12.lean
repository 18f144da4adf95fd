/- Part C12 of a proof of statements of chapter 15 (no condition). -/
import Derived.Test.YthpgjkjgkhjjlaaGreatDoorC08
import Derived.Test.YthpgjkjgkhjjlaaGreatDoorC09
import Derived.Test.YthpgjkjgkhjjlaaGreatDoorC10
import Derived.Test.YthpgjkjgkhjjlaaGreatDoorC11
set_option linter.unusedVariables false
set_option linter.unusedSimpArgs false
set_option maxRecDepth 100000
set_option maxHeartbeats 64000000
namespace Go.Proofs.YthpgjkjgkhjjlaaGreatDoor
open Go.RowKit Go.Proofs.Tryz
section
open Go.ChangeShapes Go.WideShapes Go.ChangeAt
theorem centralTicksG5:prog.funcNamed Rows.centralTicksRow.func=some 8:=by kernel_rfl
theorem centralTicks_holds:Rows.CentralTicksCardSaid :=
 Claim7.holds_tied_plain_at .later [] [.data] true Rows.centralTicksCard.stood.harness false
  tI (fun _ h=>by cases h) zF (fun _ h=>by cases h) centralTicks_row_tie rfl ⟨rfl,rfl⟩ zG rfl
  (fun f fn hf hfn=>by
   obtain rfl:f=8:=Option.some.inj (centralTicksG5.symm.trans hf) |>.symm;obtain rfl:fn=f8:=(Option.some.inj (func8.symm.trans hfn)).symm;exact ⟨zD,fun j t ht=>by
    have hm:t∈f8.params.toList:=Array.mem_toList_iff.2 (Array.mem_of_getElem? ht);have hall:=zH;exact show prog.wantsStandIn t=false by simpa using List.all_eq_true.1 hall t hm⟩)
  zE
end
end Go.Proofs.YthpgjkjgkhjjlaaGreatDoor
