/- Part B07 of a proof of statements of chapter 15 (no condition). -/
import Derived.Test.YtkkbopkbjacfmaaGreatDoorChecked
import Derived.Test.YtkkbopkbjacfmaaGreatDoorRows
import Derived.JoinedOf
import Derived.ProofKit
set_option linter.unusedVariables false
set_option linter.unusedSimpArgs false
set_option maxRecDepth 100000
set_option maxHeartbeats 64000000
namespace Go.Proofs.YtkkbopkbjacfmaaGreatDoor
open Go.RowKit Go.Proofs.Tryz
section
open Go.ChangeShapes Go.WideShapes Go.ChangeAt
theorem rA:(Rows.rollbackLeavesRow.wf (OpenSpec.ofChange Rows.rollbackLeavesSpec):Bool)=true:=by kernel_rfl
theorem rC:(laidOutB prog:Bool)=true:=by kernel_rfl
theorem rD:(mapsRowed prog:Bool)=true:=by kernel_rfl
theorem rE:(Tryz.f5.params.all (prog.readableRec ·):Bool)=true:=by kernel_rfl
theorem rF:(namedTie prog Rows.rollbackLeavesRow.named Rows.rollbackLeavesSpec.vars:Bool)=true:=by kernel_rfl
theorem rG:((Rows.rollbackLeavesRow.stops == []):Bool)=true:=by kernel_rfl
theorem rH:((prog.stops == []):Bool)=true:=by kernel_rfl
theorem rI:((Rows.rollbackLeavesRow.knobs == []):Bool)=true:=by kernel_rfl
theorem rJ:((prog.stopKnobs == []):Bool)=true:=by kernel_rfl
theorem qb:((Rows.rollbackLeavesRow.maps == (Tryz.f5.params.toList++Rows.rollbackLeavesSpec.plain.varTypes prog).any (prog.mapsRec ·)):Bool)=true:=by kernel_rfl
theorem qc:((Rows.rollbackLeavesRow.ifaces == (Tryz.f5.params.toList++Rows.rollbackLeavesSpec.plain.varTypes prog).any (prog.ifacesRec ·)):Bool)=true:=by kernel_rfl
theorem qd:((Rows.rollbackLeavesRow.mapsOut == prog.mapsAmong Tryz.f5.resultTypes.toList):Bool)=true:=by kernel_rfl
theorem qg:((Rows.rollbackLeavesRow.loops == (Tryz.f5.params.toList++Rows.rollbackLeavesSpec.plain.varTypes prog).any (prog.loopsFrom ·)):Bool)=true:=by kernel_rfl
theorem qh:((Rows.rollbackLeavesRow.wideKeys == (Tryz.f5.params.toList++Rows.rollbackLeavesSpec.plain.varTypes prog++Tryz.f5.resultTypes.toList).any (prog.wideKeysFrom ·)):Bool)=true:=by kernel_rfl
theorem qi:(Rows.rollbackLeavesSpec.vars.all (prog.varReadable ·):Bool)=true:=by kernel_rfl
theorem qj:(Tryz.f5.resultTypes.all (fun t=>prog.readableRec t && decide (t<prog.types.size)):Bool)=true:=by kernel_rfl
theorem qk:((Rows.rollbackLeavesRow.ifacesOut == Tryz.f5.resultTypes.toList.any (prog.ifacesRec ·)):Bool)=true:=by kernel_rfl
theorem ql:((Rows.rollbackLeavesRow.loopsOut == Tryz.f5.resultTypes.toList.any (prog.loopsFrom ·)):Bool)=true:=by kernel_rfl
theorem qm:((Rows.rollbackLeavesRow.plainKeys == prog.plainKeys):Bool)=true:=by kernel_rfl
theorem qn:(Rows.rollbackLeavesRow.shortTexts.isNone:Bool)=true:=by kernel_rfl
theorem qo:(prog.stopsHeard:Bool)=true:=by kernel_rfl
theorem qp:(prog.mayEnter:Bool)=true:=by kernel_rfl
theorem qr:((Rows.rollbackLeavesRow.lifted == prog.liftsFinal):Bool)=true:=by kernel_rfl
theorem qs:((prog.make == some Rows.rollbackLeavesRow.make):Bool)=true:=by kernel_rfl
theorem qt:((Rows.rollbackLeavesRow.kinds == (if Rows.rollbackLeavesRow.domain.isEmpty then [] else Tryz.f5.params.toList.map fun t=>match prog.underlying t with|some (.int k)=>some k|_=>none)):Bool)=true:=by kernel_rfl
theorem qu:((Rows.rollbackLeavesRow.pinned == Rows.rollbackLeavesRow.pinnedBy):Bool)=true:=by kernel_rfl
theorem qv:((Rows.rollbackLeavesRow.veiled == (Tryz.f5.params.toList++Rows.rollbackLeavesSpec.plain.varTypes prog++Tryz.f5.resultTypes.toList).any (prog.veiledRec ·)):Bool)=true:=by kernel_rfl
theorem qw:(Rows.rollbackLeavesRow.veiledFits prog Tryz.f5.params.toList (Tryz.f5.params.toList++Rows.rollbackLeavesSpec.plain.varTypes prog++Tryz.f5.resultTypes.toList):Bool)=true:=by kernel_rfl
end
end Go.Proofs.YtkkbopkbjacfmaaGreatDoor
