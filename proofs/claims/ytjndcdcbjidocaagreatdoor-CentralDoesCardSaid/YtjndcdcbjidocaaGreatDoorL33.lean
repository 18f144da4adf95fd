/- Part 33 of 33 of the proof of centralDoes_holds (no condition). -/
import Derived.Test.YtjndcdcbjidocaaGreatDoorL29
import Derived.Test.YtjndcdcbjidocaaGreatDoorL30
import Derived.Test.YtjndcdcbjidocaaGreatDoorL31
import Derived.Test.YtjndcdcbjidocaaGreatDoorL32
set_option linter.unusedVariables false
set_option linter.unusedSimpArgs false
set_option maxRecDepth 100000
set_option maxHeartbeats 64000000
namespace Go.Proofs.YtjndcdcbjidocaaGreatDoor
open Go.RowKit Go.Proofs.Tryz
section
open Go.ChangeShapes Go.WideShapes Go.ChangeAt
theorem centralDoes_holds:Rows.CentralDoesCardSaid :=
 Claim7.holds_tied_plain_at .later [] [.data] true Rows.centralDoesCard.stood.harness false
  pY (fun _ h=>by cases h) s6 (fun _ h=>by cases h) centralDoes_row_tie rfl ⟨rfl,rfl⟩ s7 rfl
  (fun f fn hf hfn=>by
   obtain rfl:f=4:=Option.some.inj (s9.symm.trans hf) |>.symm;obtain rfl:fn=f4:=(Option.some.inj (func4.symm.trans hfn)).symm;exact ⟨s0,fun j t ht=>by
    have hm:t∈f4.params.toList:=Array.mem_toList_iff.2 (Array.mem_of_getElem? ht);have hall:=s8;exact show prog.wantsStandIn t=false by simpa using List.all_eq_true.1 hall t hm⟩)
  s5
end
end Go.Proofs.YtjndcdcbjidocaaGreatDoor
