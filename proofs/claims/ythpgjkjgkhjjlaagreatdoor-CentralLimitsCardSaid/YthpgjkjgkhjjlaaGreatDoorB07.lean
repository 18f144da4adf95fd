/- Part B07 of a proof of statements of chapter 15 (no condition). -/
import Derived.Test.YthpgjkjgkhjjlaaGreatDoorChecked
import Derived.Test.YthpgjkjgkhjjlaaGreatDoorRows
import Derived.JoinedOf
import Derived.ProofKit
set_option linter.unusedVariables false
set_option linter.unusedSimpArgs false
set_option maxRecDepth 100000
set_option maxHeartbeats 64000000
namespace Go.Proofs.YthpgjkjgkhjjlaaGreatDoor
open Go.RowKit Go.Proofs.Tryz
section
open Go.ChangeShapes Go.WideShapes Go.ChangeAt
theorem vJ:(Rows.centralLimitsRow.wf (OpenSpec.ofChange Rows.centralLimitsSpec):Bool)=true:=by kernel_rfl
theorem vK:(laidOutB prog:Bool)=true:=by kernel_rfl
theorem vL:(mapsRowed prog:Bool)=true:=by kernel_rfl
theorem vM:(f9.params.all (prog.readableRec ·):Bool)=true:=by kernel_rfl
theorem vN:(namedTie prog Rows.centralLimitsRow.named Rows.centralLimitsSpec.vars:Bool)=true:=by kernel_rfl
theorem vO:((Rows.centralLimitsRow.stops == []):Bool)=true:=by kernel_rfl
theorem vP:((prog.stops == []):Bool)=true:=by kernel_rfl
theorem vQ:((Rows.centralLimitsRow.knobs == []):Bool)=true:=by kernel_rfl
theorem vR:((prog.stopKnobs == []):Bool)=true:=by kernel_rfl
theorem tk:((Rows.centralLimitsRow.maps == (f9.params.toList++Rows.centralLimitsSpec.plain.varTypes prog).any (prog.mapsRec ·)):Bool)=true:=by kernel_rfl
theorem tl:((Rows.centralLimitsRow.ifaces == (f9.params.toList++Rows.centralLimitsSpec.plain.varTypes prog).any (prog.ifacesRec ·)):Bool)=true:=by kernel_rfl
theorem tm:((Rows.centralLimitsRow.mapsOut == prog.mapsAmong f9.resultTypes.toList):Bool)=true:=by kernel_rfl
theorem tn:((Rows.centralLimitsRow.loops == (f9.params.toList++Rows.centralLimitsSpec.plain.varTypes prog).any (prog.loopsFrom ·)):Bool)=true:=by kernel_rfl
theorem toZ:((Rows.centralLimitsRow.wideKeys == (f9.params.toList++Rows.centralLimitsSpec.plain.varTypes prog++f9.resultTypes.toList).any (prog.wideKeysFrom ·)):Bool)=true:=by kernel_rfl
theorem tq:(Rows.centralLimitsSpec.vars.all (prog.varReadable ·):Bool)=true:=by kernel_rfl
theorem tt:(f9.resultTypes.all (fun t=>prog.readableRec t && decide (t<prog.types.size)):Bool)=true:=by kernel_rfl
theorem tu:((Rows.centralLimitsRow.ifacesOut == f9.resultTypes.toList.any (prog.ifacesRec ·)):Bool)=true:=by kernel_rfl
theorem tw:((Rows.centralLimitsRow.loopsOut == f9.resultTypes.toList.any (prog.loopsFrom ·)):Bool)=true:=by kernel_rfl
theorem tx:((Rows.centralLimitsRow.plainKeys == prog.plainKeys):Bool)=true:=by kernel_rfl
theorem tz:(Rows.centralLimitsRow.shortTexts.isNone:Bool)=true:=by kernel_rfl
theorem tA:(prog.stopsHeard:Bool)=true:=by kernel_rfl
theorem tB:(prog.mayEnter:Bool)=true:=by kernel_rfl
theorem tC:((Rows.centralLimitsRow.lifted == prog.liftsFinal):Bool)=true:=by kernel_rfl
theorem tD:((prog.make == some Rows.centralLimitsRow.make):Bool)=true:=by kernel_rfl
theorem tE:((Rows.centralLimitsRow.kinds == (if Rows.centralLimitsRow.domain.isEmpty then [] else f9.params.toList.map fun t=>match prog.underlying t with|some (.int k)=>some k|_=>none)):Bool)=true:=by kernel_rfl
theorem tF:((Rows.centralLimitsRow.pinned == Rows.centralLimitsRow.pinnedBy):Bool)=true:=by kernel_rfl
theorem tG:((Rows.centralLimitsRow.veiled == (f9.params.toList++Rows.centralLimitsSpec.plain.varTypes prog++f9.resultTypes.toList).any (prog.veiledRec ·)):Bool)=true:=by kernel_rfl
theorem tH:(Rows.centralLimitsRow.veiledFits prog f9.params.toList (f9.params.toList++Rows.centralLimitsSpec.plain.varTypes prog++f9.resultTypes.toList):Bool)=true:=by kernel_rfl
end
end Go.Proofs.YthpgjkjgkhjjlaaGreatDoor
