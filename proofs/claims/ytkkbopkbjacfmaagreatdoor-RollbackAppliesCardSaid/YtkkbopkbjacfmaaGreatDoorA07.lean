/- Part A07 of a proof of statements of chapter 15 (no condition). -/
import Derived.Test.YtkkbopkbjacfmaaGreatDoorChecked
import Derived.Test.YtkkbopkbjacfmaaGreatDoorRows
import Derived.JoinedOf
import Derived.ProofKit
set_option linter.unusedVariables false
set_option linter.unusedSimpArgs false
set_option maxRecDepth 100000
set_option maxHeartbeats 64000000
namespace Go.Proofs.YtkkbopkbjacfmaaGreatDoor
open Go.RowKit Go.Proofs.Tryz
section
open Go.ChangeShapes Go.WideShapes Go.ChangeAt
theorem rollbackAppliesF0:(Rows.rollbackAppliesRow.wf (OpenSpec.ofChange Rows.rollbackAppliesSpec):Bool)=true:=by kernel_rfl
theorem rollbackAppliesF1:(laidOutB prog:Bool)=true:=by kernel_rfl
theorem rollbackAppliesF2:(mapsRowed prog:Bool)=true:=by kernel_rfl
theorem rollbackAppliesF3:(Tryz.f4.params.all (prog.readableRec ·):Bool)=true:=by kernel_rfl
theorem rollbackAppliesF4:(namedTie prog Rows.rollbackAppliesRow.named Rows.rollbackAppliesSpec.vars:Bool)=true:=by kernel_rfl
theorem rollbackAppliesF5:((Rows.rollbackAppliesRow.stops == []):Bool)=true:=by kernel_rfl
theorem rollbackAppliesF6:((prog.stops == []):Bool)=true:=by kernel_rfl
theorem rollbackAppliesF7:((Rows.rollbackAppliesRow.knobs == []):Bool)=true:=by kernel_rfl
theorem rollbackAppliesF8:((prog.stopKnobs == []):Bool)=true:=by kernel_rfl
theorem rollbackAppliesF13:((Rows.rollbackAppliesRow.maps == (Tryz.f4.params.toList++Rows.rollbackAppliesSpec.plain.varTypes prog).any (prog.mapsRec ·)):Bool)=true:=by kernel_rfl
theorem rollbackAppliesF14:((Rows.rollbackAppliesRow.ifaces == (Tryz.f4.params.toList++Rows.rollbackAppliesSpec.plain.varTypes prog).any (prog.ifacesRec ·)):Bool)=true:=by kernel_rfl
theorem rollbackAppliesF15:((Rows.rollbackAppliesRow.mapsOut == prog.mapsAmong Tryz.f4.resultTypes.toList):Bool)=true:=by kernel_rfl
theorem rollbackAppliesF16:((Rows.rollbackAppliesRow.loops == (Tryz.f4.params.toList++Rows.rollbackAppliesSpec.plain.varTypes prog).any (prog.loopsFrom ·)):Bool)=true:=by kernel_rfl
theorem rollbackAppliesF17:((Rows.rollbackAppliesRow.wideKeys == (Tryz.f4.params.toList++Rows.rollbackAppliesSpec.plain.varTypes prog++Tryz.f4.resultTypes.toList).any (prog.wideKeysFrom ·)):Bool)=true:=by kernel_rfl
theorem rollbackAppliesF18:(Rows.rollbackAppliesSpec.vars.all (prog.varReadable ·):Bool)=true:=by kernel_rfl
theorem rollbackAppliesF19:(Tryz.f4.resultTypes.all (fun t=>prog.readableRec t && decide (t<prog.types.size)):Bool)=true:=by kernel_rfl
theorem rollbackAppliesF20:((Rows.rollbackAppliesRow.ifacesOut == Tryz.f4.resultTypes.toList.any (prog.ifacesRec ·)):Bool)=true:=by kernel_rfl
theorem rollbackAppliesF21:((Rows.rollbackAppliesRow.loopsOut == Tryz.f4.resultTypes.toList.any (prog.loopsFrom ·)):Bool)=true:=by kernel_rfl
theorem rollbackAppliesF22:((Rows.rollbackAppliesRow.plainKeys == prog.plainKeys):Bool)=true:=by kernel_rfl
theorem rollbackAppliesF23:(Rows.rollbackAppliesRow.shortTexts.isNone:Bool)=true:=by kernel_rfl
theorem rollbackAppliesF24:(prog.stopsHeard:Bool)=true:=by kernel_rfl
theorem rollbackAppliesF25:(prog.mayEnter:Bool)=true:=by kernel_rfl
theorem rollbackAppliesF26:((Rows.rollbackAppliesRow.lifted == prog.liftsFinal):Bool)=true:=by kernel_rfl
theorem rollbackAppliesF27:((prog.make == some Rows.rollbackAppliesRow.make):Bool)=true:=by kernel_rfl
theorem rollbackAppliesF28:((Rows.rollbackAppliesRow.kinds == (if Rows.rollbackAppliesRow.domain.isEmpty then [] else Tryz.f4.params.toList.map fun t=>match prog.underlying t with|some (.int k)=>some k|_=>none)):Bool)=true:=by kernel_rfl
theorem rollbackAppliesF29:((Rows.rollbackAppliesRow.pinned == Rows.rollbackAppliesRow.pinnedBy):Bool)=true:=by kernel_rfl
theorem rollbackAppliesF30:((Rows.rollbackAppliesRow.veiled == (Tryz.f4.params.toList++Rows.rollbackAppliesSpec.plain.varTypes prog++Tryz.f4.resultTypes.toList).any (prog.veiledRec ·)):Bool)=true:=by kernel_rfl
theorem rollbackAppliesF31:(Rows.rollbackAppliesRow.veiledFits prog Tryz.f4.params.toList (Tryz.f4.params.toList++Rows.rollbackAppliesSpec.plain.varTypes prog++Tryz.f4.resultTypes.toList):Bool)=true:=by kernel_rfl
end
end Go.Proofs.YtkkbopkbjacfmaaGreatDoor
