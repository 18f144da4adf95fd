/- Part D07 of a proof of statements of chapter 15 (no condition). -/
import Derived.Test.YthpgjkjgkhjjlaaGreatDoorChecked
import Derived.Test.YthpgjkjgkhjjlaaGreatDoorRows
import Derived.JoinedOf
import Derived.ProofKit
set_option linter.unusedVariables false
set_option linter.unusedSimpArgs false
set_option maxRecDepth 100000
set_option maxHeartbeats 64000000
namespace Go.Proofs.YthpgjkjgkhjjlaaGreatDoor
open Go.RowKit Go.Proofs.Tryz
section
open Go.ChangeShapes Go.WideShapes Go.ChangeAt
theorem tK:(Rows.centralCancelsRow.wf (OpenSpec.ofChange Rows.centralCancelsSpec):Bool)=true:=by kernel_rfl
theorem tL:(laidOutB prog:Bool)=true:=by kernel_rfl
theorem tM:(mapsRowed prog:Bool)=true:=by kernel_rfl
theorem tN:(Tryz.f6.params.all (prog.readableRec ·):Bool)=true:=by kernel_rfl
theorem tO:(namedTie prog Rows.centralCancelsRow.named Rows.centralCancelsSpec.vars:Bool)=true:=by kernel_rfl
theorem tP:((Rows.centralCancelsRow.stops == []):Bool)=true:=by kernel_rfl
theorem tQ:((prog.stops == []):Bool)=true:=by kernel_rfl
theorem tR:((Rows.centralCancelsRow.knobs == []):Bool)=true:=by kernel_rfl
theorem tS:((prog.stopKnobs == []):Bool)=true:=by kernel_rfl
theorem ra:((Rows.centralCancelsRow.maps == (Tryz.f6.params.toList++Rows.centralCancelsSpec.plain.varTypes prog).any (prog.mapsRec ·)):Bool)=true:=by kernel_rfl
theorem rb:((Rows.centralCancelsRow.ifaces == (Tryz.f6.params.toList++Rows.centralCancelsSpec.plain.varTypes prog).any (prog.ifacesRec ·)):Bool)=true:=by kernel_rfl
theorem rc:((Rows.centralCancelsRow.mapsOut == prog.mapsAmong Tryz.f6.resultTypes.toList):Bool)=true:=by kernel_rfl
theorem rd:((Rows.centralCancelsRow.loops == (Tryz.f6.params.toList++Rows.centralCancelsSpec.plain.varTypes prog).any (prog.loopsFrom ·)):Bool)=true:=by kernel_rfl
theorem re:((Rows.centralCancelsRow.wideKeys == (Tryz.f6.params.toList++Rows.centralCancelsSpec.plain.varTypes prog++Tryz.f6.resultTypes.toList).any (prog.wideKeysFrom ·)):Bool)=true:=by kernel_rfl
theorem rf:(Rows.centralCancelsSpec.vars.all (prog.varReadable ·):Bool)=true:=by kernel_rfl
theorem rg:(Tryz.f6.resultTypes.all (fun t=>prog.readableRec t && decide (t<prog.types.size)):Bool)=true:=by kernel_rfl
theorem rh:((Rows.centralCancelsRow.ifacesOut == Tryz.f6.resultTypes.toList.any (prog.ifacesRec ·)):Bool)=true:=by kernel_rfl
theorem ri:((Rows.centralCancelsRow.loopsOut == Tryz.f6.resultTypes.toList.any (prog.loopsFrom ·)):Bool)=true:=by kernel_rfl
theorem rj:((Rows.centralCancelsRow.plainKeys == prog.plainKeys):Bool)=true:=by kernel_rfl
theorem rk:(Rows.centralCancelsRow.shortTexts.isNone:Bool)=true:=by kernel_rfl
theorem rl:(prog.stopsHeard:Bool)=true:=by kernel_rfl
theorem rm:(prog.mayEnter:Bool)=true:=by kernel_rfl
theorem rn:((Rows.centralCancelsRow.lifted == prog.liftsFinal):Bool)=true:=by kernel_rfl
theorem ro:((prog.make == some Rows.centralCancelsRow.make):Bool)=true:=by kernel_rfl
theorem rp:((Rows.centralCancelsRow.kinds == (if Rows.centralCancelsRow.domain.isEmpty then [] else Tryz.f6.params.toList.map fun t=>match prog.underlying t with|some (.int k)=>some k|_=>none)):Bool)=true:=by kernel_rfl
theorem rr:((Rows.centralCancelsRow.pinned == Rows.centralCancelsRow.pinnedBy):Bool)=true:=by kernel_rfl
theorem rt:((Rows.centralCancelsRow.veiled == (Tryz.f6.params.toList++Rows.centralCancelsSpec.plain.varTypes prog++Tryz.f6.resultTypes.toList).any (prog.veiledRec ·)):Bool)=true:=by kernel_rfl
theorem ru:(Rows.centralCancelsRow.veiledFits prog Tryz.f6.params.toList (Tryz.f6.params.toList++Rows.centralCancelsSpec.plain.varTypes prog++Tryz.f6.resultTypes.toList):Bool)=true:=by kernel_rfl
end
end Go.Proofs.YthpgjkjgkhjjlaaGreatDoor
