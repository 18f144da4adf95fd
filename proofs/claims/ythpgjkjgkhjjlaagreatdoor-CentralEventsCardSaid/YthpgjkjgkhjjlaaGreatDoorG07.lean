/- Part G07 of a proof of statements of chapter 15 (no condition). -/
import Derived.Test.YthpgjkjgkhjjlaaGreatDoorChecked
import Derived.Test.YthpgjkjgkhjjlaaGreatDoorRows
import Derived.JoinedOf
import Derived.ProofKit
set_option linter.unusedVariables false
set_option linter.unusedSimpArgs false
set_option maxRecDepth 100000
set_option maxHeartbeats 64000000
namespace Go.Proofs.YthpgjkjgkhjjlaaGreatDoor
open Go.RowKit Go.Proofs.Tryz
section
open Go.ChangeShapes Go.WideShapes Go.ChangeAt
theorem wW:(Rows.centralEventsRow.wf (OpenSpec.ofChange Rows.centralEventsSpec):Bool)=true:=by kernel_rfl
theorem wX:(laidOutB prog:Bool)=true:=by kernel_rfl
theorem wY:(mapsRowed prog:Bool)=true:=by kernel_rfl
theorem wZ:(f4.params.all (prog.readableRec ·):Bool)=true:=by kernel_rfl
theorem xa:(namedTie prog Rows.centralEventsRow.named Rows.centralEventsSpec.vars:Bool)=true:=by kernel_rfl
theorem xb:((Rows.centralEventsRow.stops == []):Bool)=true:=by kernel_rfl
theorem xc:((prog.stops == []):Bool)=true:=by kernel_rfl
theorem xd:((Rows.centralEventsRow.knobs == []):Bool)=true:=by kernel_rfl
theorem xe:((prog.stopKnobs == []):Bool)=true:=by kernel_rfl
theorem uq:((Rows.centralEventsRow.maps == (f4.params.toList++Rows.centralEventsSpec.plain.varTypes prog).any (prog.mapsRec ·)):Bool)=true:=by kernel_rfl
theorem ur:((Rows.centralEventsRow.ifaces == (f4.params.toList++Rows.centralEventsSpec.plain.varTypes prog).any (prog.ifacesRec ·)):Bool)=true:=by kernel_rfl
theorem ut:((Rows.centralEventsRow.mapsOut == prog.mapsAmong f4.resultTypes.toList):Bool)=true:=by kernel_rfl
theorem uu:((Rows.centralEventsRow.loops == (f4.params.toList++Rows.centralEventsSpec.plain.varTypes prog).any (prog.loopsFrom ·)):Bool)=true:=by kernel_rfl
theorem uv:((Rows.centralEventsRow.wideKeys == (f4.params.toList++Rows.centralEventsSpec.plain.varTypes prog++f4.resultTypes.toList).any (prog.wideKeysFrom ·)):Bool)=true:=by kernel_rfl
theorem uw:(Rows.centralEventsSpec.vars.all (prog.varReadable ·):Bool)=true:=by kernel_rfl
theorem ux:(f4.resultTypes.all (fun t=>prog.readableRec t && decide (t<prog.types.size)):Bool)=true:=by kernel_rfl
theorem uy:((Rows.centralEventsRow.ifacesOut == f4.resultTypes.toList.any (prog.ifacesRec ·)):Bool)=true:=by kernel_rfl
theorem uz:((Rows.centralEventsRow.loopsOut == f4.resultTypes.toList.any (prog.loopsFrom ·)):Bool)=true:=by kernel_rfl
theorem uA:((Rows.centralEventsRow.plainKeys == prog.plainKeys):Bool)=true:=by kernel_rfl
theorem uB:(Rows.centralEventsRow.shortTexts.isNone:Bool)=true:=by kernel_rfl
theorem uC:(prog.stopsHeard:Bool)=true:=by kernel_rfl
theorem uD:(prog.mayEnter:Bool)=true:=by kernel_rfl
theorem uE:((Rows.centralEventsRow.lifted == prog.liftsFinal):Bool)=true:=by kernel_rfl
theorem uF:((prog.make == some Rows.centralEventsRow.make):Bool)=true:=by kernel_rfl
theorem uG:((Rows.centralEventsRow.kinds == (if Rows.centralEventsRow.domain.isEmpty then [] else f4.params.toList.map fun t=>match prog.underlying t with|some (.int k)=>some k|_=>none)):Bool)=true:=by kernel_rfl
theorem uH:((Rows.centralEventsRow.pinned == Rows.centralEventsRow.pinnedBy):Bool)=true:=by kernel_rfl
theorem uI:((Rows.centralEventsRow.veiled == (f4.params.toList++Rows.centralEventsSpec.plain.varTypes prog++f4.resultTypes.toList).any (prog.veiledRec ·)):Bool)=true:=by kernel_rfl
theorem uJ:(Rows.centralEventsRow.veiledFits prog f4.params.toList (f4.params.toList++Rows.centralEventsSpec.plain.varTypes prog++f4.resultTypes.toList):Bool)=true:=by kernel_rfl
end
end Go.Proofs.YthpgjkjgkhjjlaaGreatDoor
