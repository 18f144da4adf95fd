/- Part 30 of 35 of the proof of centralNew_holds (no condition). -/
import Derived.Test.YtjndcdcbjidocaaGreatDoorChecked
import Derived.Test.YtjndcdcbjidocaaGreatDoorRows
import Derived.JoinedOf
import Derived.ProofKit
set_option linter.unusedVariables false
set_option linter.unusedSimpArgs false
set_option maxRecDepth 100000
set_option maxHeartbeats 64000000
namespace Go.Proofs.YtjndcdcbjidocaaGreatDoor
open Go.RowKit Go.Proofs.Tryz
section
open Go.ChangeShapes Go.WideShapes Go.ChangeAt
theorem uF:(Rows.centralNewRow.wf (OpenSpec.ofChange Rows.centralNewSpec):Bool)=true:=by kernel_rfl
theorem uG:(laidOutB prog:Bool)=true:=by kernel_rfl
theorem uH:(mapsRowed prog:Bool)=true:=by kernel_rfl
theorem uI:(Tryz.f3.params.all (prog.readableRec ·):Bool)=true:=by kernel_rfl
theorem uJ:(namedTie prog Rows.centralNewRow.named Rows.centralNewSpec.vars:Bool)=true:=by kernel_rfl
theorem uL:((Rows.centralNewRow.stops == []):Bool)=true:=by kernel_rfl
theorem uM:((prog.stops == []):Bool)=true:=by kernel_rfl
theorem uN:((Rows.centralNewRow.knobs == []):Bool)=true:=by kernel_rfl
theorem uO:((prog.stopKnobs == []):Bool)=true:=by kernel_rfl
theorem rx:((Rows.centralNewRow.maps == (Tryz.f3.params.toList++Rows.centralNewSpec.plain.varTypes prog).any (prog.mapsRec ·)):Bool)=true:=by kernel_rfl
theorem ry:((Rows.centralNewRow.ifaces == (Tryz.f3.params.toList++Rows.centralNewSpec.plain.varTypes prog).any (prog.ifacesRec ·)):Bool)=true:=by kernel_rfl
theorem rz:((Rows.centralNewRow.mapsOut == prog.mapsAmong Tryz.f3.resultTypes.toList):Bool)=true:=by kernel_rfl
theorem rA:((Rows.centralNewRow.loops == (Tryz.f3.params.toList++Rows.centralNewSpec.plain.varTypes prog).any (prog.loopsFrom ·)):Bool)=true:=by kernel_rfl
theorem rB:((Rows.centralNewRow.wideKeys == (Tryz.f3.params.toList++Rows.centralNewSpec.plain.varTypes prog++Tryz.f3.resultTypes.toList).any (prog.wideKeysFrom ·)):Bool)=true:=by kernel_rfl
theorem rC:(Rows.centralNewSpec.vars.all (prog.varReadable ·):Bool)=true:=by kernel_rfl
theorem rD:(Tryz.f3.resultTypes.all (fun t=>prog.readableRec t && decide (t<prog.types.size)):Bool)=true:=by kernel_rfl
theorem rE:((Rows.centralNewRow.ifacesOut == Tryz.f3.resultTypes.toList.any (prog.ifacesRec ·)):Bool)=true:=by kernel_rfl
theorem rF:((Rows.centralNewRow.loopsOut == Tryz.f3.resultTypes.toList.any (prog.loopsFrom ·)):Bool)=true:=by kernel_rfl
theorem rG:((Rows.centralNewRow.plainKeys == prog.plainKeys):Bool)=true:=by kernel_rfl
theorem rH:(Rows.centralNewRow.shortTexts.isNone:Bool)=true:=by kernel_rfl
theorem rI:(prog.stopsHeard:Bool)=true:=by kernel_rfl
theorem rJ:(prog.mayEnter:Bool)=true:=by kernel_rfl
theorem rK:((Rows.centralNewRow.lifted == prog.liftsFinal):Bool)=true:=by kernel_rfl
theorem rL:((prog.make == some Rows.centralNewRow.make):Bool)=true:=by kernel_rfl
theorem rM:((Rows.centralNewRow.kinds == (if Rows.centralNewRow.domain.isEmpty then [] else Tryz.f3.params.toList.map fun t=>match prog.underlying t with|some (.int k)=>some k|_=>none)):Bool)=true:=by kernel_rfl
theorem rN:((Rows.centralNewRow.pinned == Rows.centralNewRow.pinnedBy):Bool)=true:=by kernel_rfl
theorem rO:((Rows.centralNewRow.veiled == (Tryz.f3.params.toList++Rows.centralNewSpec.plain.varTypes prog++Tryz.f3.resultTypes.toList).any (prog.veiledRec ·)):Bool)=true:=by kernel_rfl
theorem rP:(Rows.centralNewRow.veiledFits prog Tryz.f3.params.toList (Tryz.f3.params.toList++Rows.centralNewSpec.plain.varTypes prog++Tryz.f3.resultTypes.toList):Bool)=true:=by kernel_rfl
end
end Go.Proofs.YtjndcdcbjidocaaGreatDoor
