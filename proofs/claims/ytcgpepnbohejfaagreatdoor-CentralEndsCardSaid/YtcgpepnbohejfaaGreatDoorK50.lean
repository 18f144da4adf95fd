/- Part 50 of 56 of the proof of both_hold (no condition). -/
import Derived.Test.YtcgpepnbohejfaaGreatDoorChecked
import Derived.Test.YtcgpepnbohejfaaGreatDoorRows
import Derived.JoinedOf
import Derived.ProofKit
set_option linter.unusedVariables false
set_option linter.unusedSimpArgs false
set_option maxRecDepth 100000
set_option maxHeartbeats 64000000
namespace Go.Proofs.YtcgpepnbohejfaaGreatDoor
open Go.RowKit Go.Proofs.Tryz
section
open Go.ChangeShapes Go.WideShapes Go.ChangeAt
theorem rQ:(Rows.centralEndsRow.wf (OpenSpec.ofChange Rows.centralEndsSpec):Bool)=true:=by kernel_rfl
theorem rR:(laidOutB prog:Bool)=true:=by kernel_rfl
theorem rS:(mapsRowed prog:Bool)=true:=by kernel_rfl
theorem rT:(f4.params.all (prog.readableRec ·):Bool)=true:=by kernel_rfl
theorem rU:(namedTie prog Rows.centralEndsRow.named Rows.centralEndsSpec.vars:Bool)=true:=by kernel_rfl
theorem rV:((Rows.centralEndsRow.stops == []):Bool)=true:=by kernel_rfl
theorem rW:((prog.stops == []):Bool)=true:=by kernel_rfl
theorem rX:((Rows.centralEndsRow.knobs == []):Bool)=true:=by kernel_rfl
theorem rY:((prog.stopKnobs == []):Bool)=true:=by kernel_rfl
theorem qO:((Rows.centralEndsRow.maps == (f4.params.toList++Rows.centralEndsSpec.plain.varTypes prog).any (prog.mapsRec ·)):Bool)=true:=by kernel_rfl
theorem qP:((Rows.centralEndsRow.ifaces == (f4.params.toList++Rows.centralEndsSpec.plain.varTypes prog).any (prog.ifacesRec ·)):Bool)=true:=by kernel_rfl
theorem qQ:((Rows.centralEndsRow.mapsOut == prog.mapsAmong f4.resultTypes.toList):Bool)=true:=by kernel_rfl
theorem qR:((Rows.centralEndsRow.loops == (f4.params.toList++Rows.centralEndsSpec.plain.varTypes prog).any (prog.loopsFrom ·)):Bool)=true:=by kernel_rfl
theorem qS:((Rows.centralEndsRow.wideKeys == (f4.params.toList++Rows.centralEndsSpec.plain.varTypes prog++f4.resultTypes.toList).any (prog.wideKeysFrom ·)):Bool)=true:=by kernel_rfl
theorem qT:(Rows.centralEndsSpec.vars.all (prog.varReadable ·):Bool)=true:=by kernel_rfl
theorem qU:(f4.resultTypes.all (fun t=>prog.readableRec t && decide (t<prog.types.size)):Bool)=true:=by kernel_rfl
theorem qV:((Rows.centralEndsRow.ifacesOut == f4.resultTypes.toList.any (prog.ifacesRec ·)):Bool)=true:=by kernel_rfl
theorem qW:((Rows.centralEndsRow.loopsOut == f4.resultTypes.toList.any (prog.loopsFrom ·)):Bool)=true:=by kernel_rfl
theorem qX:((Rows.centralEndsRow.plainKeys == prog.plainKeys):Bool)=true:=by kernel_rfl
theorem qY:(Rows.centralEndsRow.shortTexts.isNone:Bool)=true:=by kernel_rfl
theorem qZ:(prog.stopsHeard:Bool)=true:=by kernel_rfl
theorem q7:(prog.mayEnter:Bool)=true:=by kernel_rfl
theorem q9:((Rows.centralEndsRow.lifted == prog.liftsFinal):Bool)=true:=by kernel_rfl
theorem ra:((prog.make == some Rows.centralEndsRow.make):Bool)=true:=by kernel_rfl
theorem rb:((Rows.centralEndsRow.kinds == (if Rows.centralEndsRow.domain.isEmpty then [] else f4.params.toList.map fun t=>match prog.underlying t with|some (.int k)=>some k|_=>none)):Bool)=true:=by kernel_rfl
theorem rc:((Rows.centralEndsRow.pinned == Rows.centralEndsRow.pinnedBy):Bool)=true:=by kernel_rfl
theorem rd:((Rows.centralEndsRow.veiled == (f4.params.toList++Rows.centralEndsSpec.plain.varTypes prog++f4.resultTypes.toList).any (prog.veiledRec ·)):Bool)=true:=by kernel_rfl
theorem re:(Rows.centralEndsRow.veiledFits prog f4.params.toList (f4.params.toList++Rows.centralEndsSpec.plain.varTypes prog++f4.resultTypes.toList):Bool)=true:=by kernel_rfl
end
end Go.Proofs.YtcgpepnbohejfaaGreatDoor
