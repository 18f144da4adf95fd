/- Part A07 of a proof of statements of chapter 15 (no condition). -/
import Derived.Test.YthpgjkjgkhjjlaaGreatDoorChecked
import Derived.Test.YthpgjkjgkhjjlaaGreatDoorRows
import Derived.JoinedOf
import Derived.ProofKit
set_option linter.unusedVariables false
set_option linter.unusedSimpArgs false
set_option maxRecDepth 100000
set_option maxHeartbeats 64000000
namespace Go.Proofs.YthpgjkjgkhjjlaaGreatDoor
open Go.RowKit Go.Proofs.Tryz
section
open Go.ChangeShapes Go.WideShapes Go.ChangeAt
theorem sW:(Rows.centralScriptsRow.wf (OpenSpec.ofChange Rows.centralScriptsSpec):Bool)=true:=by kernel_rfl
theorem sX:(laidOutB prog:Bool)=true:=by kernel_rfl
theorem sY:(mapsRowed prog:Bool)=true:=by kernel_rfl
theorem sZ:(Tryz.f3.params.all (prog.readableRec ·):Bool)=true:=by kernel_rfl
theorem s5:(namedTie prog Rows.centralScriptsRow.named Rows.centralScriptsSpec.vars:Bool)=true:=by kernel_rfl
theorem s6:((Rows.centralScriptsRow.stops == []):Bool)=true:=by kernel_rfl
theorem s7:((prog.stops == []):Bool)=true:=by kernel_rfl
theorem s8:((Rows.centralScriptsRow.knobs == []):Bool)=true:=by kernel_rfl
theorem s9:((prog.stopKnobs == []):Bool)=true:=by kernel_rfl
theorem qE:((Rows.centralScriptsRow.maps == (Tryz.f3.params.toList++Rows.centralScriptsSpec.plain.varTypes prog).any (prog.mapsRec ·)):Bool)=true:=by kernel_rfl
theorem qF:((Rows.centralScriptsRow.ifaces == (Tryz.f3.params.toList++Rows.centralScriptsSpec.plain.varTypes prog).any (prog.ifacesRec ·)):Bool)=true:=by kernel_rfl
theorem qG:((Rows.centralScriptsRow.mapsOut == prog.mapsAmong Tryz.f3.resultTypes.toList):Bool)=true:=by kernel_rfl
theorem qH:((Rows.centralScriptsRow.loops == (Tryz.f3.params.toList++Rows.centralScriptsSpec.plain.varTypes prog).any (prog.loopsFrom ·)):Bool)=true:=by kernel_rfl
theorem qI:((Rows.centralScriptsRow.wideKeys == (Tryz.f3.params.toList++Rows.centralScriptsSpec.plain.varTypes prog++Tryz.f3.resultTypes.toList).any (prog.wideKeysFrom ·)):Bool)=true:=by kernel_rfl
theorem qJ:(Rows.centralScriptsSpec.vars.all (prog.varReadable ·):Bool)=true:=by kernel_rfl
theorem qK:(Tryz.f3.resultTypes.all (fun t=>prog.readableRec t && decide (t<prog.types.size)):Bool)=true:=by kernel_rfl
theorem qL:((Rows.centralScriptsRow.ifacesOut == Tryz.f3.resultTypes.toList.any (prog.ifacesRec ·)):Bool)=true:=by kernel_rfl
theorem qM:((Rows.centralScriptsRow.loopsOut == Tryz.f3.resultTypes.toList.any (prog.loopsFrom ·)):Bool)=true:=by kernel_rfl
theorem qN:((Rows.centralScriptsRow.plainKeys == prog.plainKeys):Bool)=true:=by kernel_rfl
theorem qO:(Rows.centralScriptsRow.shortTexts.isNone:Bool)=true:=by kernel_rfl
theorem qP:(prog.stopsHeard:Bool)=true:=by kernel_rfl
theorem qQ:(prog.mayEnter:Bool)=true:=by kernel_rfl
theorem qR:((Rows.centralScriptsRow.lifted == prog.liftsFinal):Bool)=true:=by kernel_rfl
theorem qS:((prog.make == some Rows.centralScriptsRow.make):Bool)=true:=by kernel_rfl
theorem qT:((Rows.centralScriptsRow.kinds == (if Rows.centralScriptsRow.domain.isEmpty then [] else Tryz.f3.params.toList.map fun t=>match prog.underlying t with|some (.int k)=>some k|_=>none)):Bool)=true:=by kernel_rfl
theorem qU:((Rows.centralScriptsRow.pinned == Rows.centralScriptsRow.pinnedBy):Bool)=true:=by kernel_rfl
theorem qV:((Rows.centralScriptsRow.veiled == (Tryz.f3.params.toList++Rows.centralScriptsSpec.plain.varTypes prog++Tryz.f3.resultTypes.toList).any (prog.veiledRec ·)):Bool)=true:=by kernel_rfl
theorem qW:(Rows.centralScriptsRow.veiledFits prog Tryz.f3.params.toList (Tryz.f3.params.toList++Rows.centralScriptsSpec.plain.varTypes prog++Tryz.f3.resultTypes.toList):Bool)=true:=by kernel_rfl
end
end Go.Proofs.YthpgjkjgkhjjlaaGreatDoor
