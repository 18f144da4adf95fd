/- Part F12 of a proof of statements of chapter 15 (no condition). -/
import Derived.Test.YthpgjkjgkhjjlaaGreatDoorF08
import Derived.Test.YthpgjkjgkhjjlaaGreatDoorF09
import Derived.Test.YthpgjkjgkhjjlaaGreatDoorF10
import Derived.Test.YthpgjkjgkhjjlaaGreatDoorF11
set_option linter.unusedVariables false
set_option linter.unusedSimpArgs false
set_option maxRecDepth 100000
set_option maxHeartbeats 64000000
namespace Go.Proofs.YthpgjkjgkhjjlaaGreatDoor
open Go.RowKit Go.Proofs.Tryz
section
open Go.ChangeShapes Go.WideShapes Go.ChangeAt
theorem centralSettlesG5:prog.funcNamed Rows.centralSettlesRow.func=some 5:=by kernel_rfl
theorem centralSettles_holds:Rows.CentralSettlesCardSaid :=
 Claim7.holds_tied_plain_at .later [] [.data] true Rows.centralSettlesCard.stood.harness false
  pu (fun _ h=>by cases h) ui (fun _ h=>by cases h) centralSettles_row_tie rfl ⟨rfl,rfl⟩ uj rfl
  (fun f fn hf hfn=>by
   obtain rfl:f=5:=Option.some.inj (centralSettlesG5.symm.trans hf) |>.symm;obtain rfl:fn=f5:=(Option.some.inj (func5.symm.trans hfn)).symm;exact ⟨ug,fun j t ht=>by
    have hm:t∈f5.params.toList:=Array.mem_toList_iff.2 (Array.mem_of_getElem? ht);have hall:=uk;exact show prog.wantsStandIn t=false by simpa using List.all_eq_true.1 hall t hm⟩)
  uh
end
end Go.Proofs.YthpgjkjgkhjjlaaGreatDoor
