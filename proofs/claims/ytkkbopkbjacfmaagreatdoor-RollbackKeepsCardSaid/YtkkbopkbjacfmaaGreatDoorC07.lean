/- Part C07 of a proof of statements of chapter 15 (no condition). -/
import Derived.Test.YtkkbopkbjacfmaaGreatDoorChecked
import Derived.Test.YtkkbopkbjacfmaaGreatDoorRows
import Derived.JoinedOf
import Derived.ProofKit
set_option linter.unusedVariables false
set_option linter.unusedSimpArgs false
set_option maxRecDepth 100000
set_option maxHeartbeats 64000000
namespace Go.Proofs.YtkkbopkbjacfmaaGreatDoor
open Go.RowKit Go.Proofs.Tryz
section
open Go.ChangeShapes Go.WideShapes Go.ChangeAt
theorem tz:(Rows.rollbackKeepsRow.wf (OpenSpec.ofChange Rows.rollbackKeepsSpec):Bool)=true:=by kernel_rfl
theorem tA:(laidOutB prog:Bool)=true:=by kernel_rfl
theorem tB:(mapsRowed prog:Bool)=true:=by kernel_rfl
theorem tC:(Tryz.f6.params.all (prog.readableRec ·):Bool)=true:=by kernel_rfl
theorem tD:(namedTie prog Rows.rollbackKeepsRow.named Rows.rollbackKeepsSpec.vars:Bool)=true:=by kernel_rfl
theorem tE:((Rows.rollbackKeepsRow.stops == []):Bool)=true:=by kernel_rfl
theorem tF:((prog.stops == []):Bool)=true:=by kernel_rfl
theorem tG:((Rows.rollbackKeepsRow.knobs == []):Bool)=true:=by kernel_rfl
theorem tH:((prog.stopKnobs == []):Bool)=true:=by kernel_rfl
theorem rT:((Rows.rollbackKeepsRow.maps == (Tryz.f6.params.toList++Rows.rollbackKeepsSpec.plain.varTypes prog).any (prog.mapsRec ·)):Bool)=true:=by kernel_rfl
theorem rU:((Rows.rollbackKeepsRow.ifaces == (Tryz.f6.params.toList++Rows.rollbackKeepsSpec.plain.varTypes prog).any (prog.ifacesRec ·)):Bool)=true:=by kernel_rfl
theorem rV:((Rows.rollbackKeepsRow.mapsOut == prog.mapsAmong Tryz.f6.resultTypes.toList):Bool)=true:=by kernel_rfl
theorem rW:((Rows.rollbackKeepsRow.loops == (Tryz.f6.params.toList++Rows.rollbackKeepsSpec.plain.varTypes prog).any (prog.loopsFrom ·)):Bool)=true:=by kernel_rfl
theorem rX:((Rows.rollbackKeepsRow.wideKeys == (Tryz.f6.params.toList++Rows.rollbackKeepsSpec.plain.varTypes prog++Tryz.f6.resultTypes.toList).any (prog.wideKeysFrom ·)):Bool)=true:=by kernel_rfl
theorem rY:(Rows.rollbackKeepsSpec.vars.all (prog.varReadable ·):Bool)=true:=by kernel_rfl
theorem rZ:(Tryz.f6.resultTypes.all (fun t=>prog.readableRec t && decide (t<prog.types.size)):Bool)=true:=by kernel_rfl
theorem r7:((Rows.rollbackKeepsRow.ifacesOut == Tryz.f6.resultTypes.toList.any (prog.ifacesRec ·)):Bool)=true:=by kernel_rfl
theorem r8:((Rows.rollbackKeepsRow.loopsOut == Tryz.f6.resultTypes.toList.any (prog.loopsFrom ·)):Bool)=true:=by kernel_rfl
theorem r9:((Rows.rollbackKeepsRow.plainKeys == prog.plainKeys):Bool)=true:=by kernel_rfl
theorem sa:(Rows.rollbackKeepsRow.shortTexts.isNone:Bool)=true:=by kernel_rfl
theorem sd:(prog.stopsHeard:Bool)=true:=by kernel_rfl
theorem se:(prog.mayEnter:Bool)=true:=by kernel_rfl
theorem sg:((Rows.rollbackKeepsRow.lifted == prog.liftsFinal):Bool)=true:=by kernel_rfl
theorem si:((prog.make == some Rows.rollbackKeepsRow.make):Bool)=true:=by kernel_rfl
theorem sj:((Rows.rollbackKeepsRow.kinds == (if Rows.rollbackKeepsRow.domain.isEmpty then [] else Tryz.f6.params.toList.map fun t=>match prog.underlying t with|some (.int k)=>some k|_=>none)):Bool)=true:=by kernel_rfl
theorem sk:((Rows.rollbackKeepsRow.pinned == Rows.rollbackKeepsRow.pinnedBy):Bool)=true:=by kernel_rfl
theorem sm:((Rows.rollbackKeepsRow.veiled == (Tryz.f6.params.toList++Rows.rollbackKeepsSpec.plain.varTypes prog++Tryz.f6.resultTypes.toList).any (prog.veiledRec ·)):Bool)=true:=by kernel_rfl
theorem so:(Rows.rollbackKeepsRow.veiledFits prog Tryz.f6.params.toList (Tryz.f6.params.toList++Rows.rollbackKeepsSpec.plain.varTypes prog++Tryz.f6.resultTypes.toList):Bool)=true:=by kernel_rfl
end
end Go.Proofs.YtkkbopkbjacfmaaGreatDoor
