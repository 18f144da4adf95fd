/- Part 28 of 33 of the proof of centralDoes_holds (no condition). -/
import Derived.Test.YtjndcdcbjidocaaGreatDoorChecked
import Derived.Test.YtjndcdcbjidocaaGreatDoorRows
import Derived.JoinedOf
import Derived.ProofKit
set_option linter.unusedVariables false
set_option linter.unusedSimpArgs false
set_option maxRecDepth 100000
set_option maxHeartbeats 64000000
namespace Go.Proofs.YtjndcdcbjidocaaGreatDoor
open Go.RowKit Go.Proofs.Tryz
section
open Go.ChangeShapes Go.WideShapes Go.ChangeAt
theorem sQ:(Rows.centralDoesRow.wf (OpenSpec.ofChange Rows.centralDoesSpec):Bool)=true:=by kernel_rfl
theorem sR:(laidOutB prog:Bool)=true:=by kernel_rfl
theorem sS:(mapsRowed prog:Bool)=true:=by kernel_rfl
theorem sU:(f4.params.all (prog.readableRec ·):Bool)=true:=by kernel_rfl
theorem sV:(namedTie prog Rows.centralDoesRow.named Rows.centralDoesSpec.vars:Bool)=true:=by kernel_rfl
theorem sW:((Rows.centralDoesRow.stops == []):Bool)=true:=by kernel_rfl
theorem sX:((prog.stops == []):Bool)=true:=by kernel_rfl
theorem sY:((Rows.centralDoesRow.knobs == []):Bool)=true:=by kernel_rfl
theorem sZ:((prog.stopKnobs == []):Bool)=true:=by kernel_rfl
theorem rY:((Rows.centralDoesRow.maps == (f4.params.toList++Rows.centralDoesSpec.plain.varTypes prog).any (prog.mapsRec ·)):Bool)=true:=by kernel_rfl
theorem rZ:((Rows.centralDoesRow.ifaces == (f4.params.toList++Rows.centralDoesSpec.plain.varTypes prog).any (prog.ifacesRec ·)):Bool)=true:=by kernel_rfl
theorem r7:((Rows.centralDoesRow.mapsOut == prog.mapsAmong f4.resultTypes.toList):Bool)=true:=by kernel_rfl
theorem r8:((Rows.centralDoesRow.loops == (f4.params.toList++Rows.centralDoesSpec.plain.varTypes prog).any (prog.loopsFrom ·)):Bool)=true:=by kernel_rfl
theorem r9:((Rows.centralDoesRow.wideKeys == (f4.params.toList++Rows.centralDoesSpec.plain.varTypes prog++f4.resultTypes.toList).any (prog.wideKeysFrom ·)):Bool)=true:=by kernel_rfl
theorem sa:(Rows.centralDoesSpec.vars.all (prog.varReadable ·):Bool)=true:=by kernel_rfl
theorem sb:(f4.resultTypes.all (fun t=>prog.readableRec t && decide (t<prog.types.size)):Bool)=true:=by kernel_rfl
theorem sd:((Rows.centralDoesRow.ifacesOut == f4.resultTypes.toList.any (prog.ifacesRec ·)):Bool)=true:=by kernel_rfl
theorem se:((Rows.centralDoesRow.loopsOut == f4.resultTypes.toList.any (prog.loopsFrom ·)):Bool)=true:=by kernel_rfl
theorem sg:((Rows.centralDoesRow.plainKeys == prog.plainKeys):Bool)=true:=by kernel_rfl
theorem sj:(Rows.centralDoesRow.shortTexts.isNone:Bool)=true:=by kernel_rfl
theorem sk:(prog.stopsHeard:Bool)=true:=by kernel_rfl
theorem sm:(prog.mayEnter:Bool)=true:=by kernel_rfl
theorem so:((Rows.centralDoesRow.lifted == prog.liftsFinal):Bool)=true:=by kernel_rfl
theorem sq:((prog.make == some Rows.centralDoesRow.make):Bool)=true:=by kernel_rfl
theorem sr:((Rows.centralDoesRow.kinds == (if Rows.centralDoesRow.domain.isEmpty then [] else f4.params.toList.map fun t=>match prog.underlying t with|some (.int k)=>some k|_=>none)):Bool)=true:=by kernel_rfl
theorem su:((Rows.centralDoesRow.pinned == Rows.centralDoesRow.pinnedBy):Bool)=true:=by kernel_rfl
theorem sw:((Rows.centralDoesRow.veiled == (f4.params.toList++Rows.centralDoesSpec.plain.varTypes prog++f4.resultTypes.toList).any (prog.veiledRec ·)):Bool)=true:=by kernel_rfl
theorem sy:(Rows.centralDoesRow.veiledFits prog f4.params.toList (f4.params.toList++Rows.centralDoesSpec.plain.varTypes prog++f4.resultTypes.toList):Bool)=true:=by kernel_rfl
end
end Go.Proofs.YtjndcdcbjidocaaGreatDoor
