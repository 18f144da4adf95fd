/- Part C07 of a proof of statements of chapter 15 (no condition). -/
import Derived.Test.YthpgjkjgkhjjlaaGreatDoorChecked
import Derived.Test.YthpgjkjgkhjjlaaGreatDoorRows
import Derived.JoinedOf
import Derived.ProofKit
set_option linter.unusedVariables false
set_option linter.unusedSimpArgs false
set_option maxRecDepth 100000
set_option maxHeartbeats 64000000
namespace Go.Proofs.YthpgjkjgkhjjlaaGreatDoor
open Go.RowKit Go.Proofs.Tryz
section
open Go.ChangeShapes Go.WideShapes Go.ChangeAt
theorem zu:(Rows.centralTicksRow.wf (OpenSpec.ofChange Rows.centralTicksSpec):Bool)=true:=by kernel_rfl
theorem zv:(laidOutB prog:Bool)=true:=by kernel_rfl
theorem zw:(mapsRowed prog:Bool)=true:=by kernel_rfl
theorem zx:(f8.params.all (prog.readableRec ·):Bool)=true:=by kernel_rfl
theorem zy:(namedTie prog Rows.centralTicksRow.named Rows.centralTicksSpec.vars:Bool)=true:=by kernel_rfl
theorem zz:((Rows.centralTicksRow.stops == []):Bool)=true:=by kernel_rfl
theorem zA:((prog.stops == []):Bool)=true:=by kernel_rfl
theorem zB:((Rows.centralTicksRow.knobs == []):Bool)=true:=by kernel_rfl
theorem zC:((prog.stopKnobs == []):Bool)=true:=by kernel_rfl
theorem wa:((Rows.centralTicksRow.maps == (f8.params.toList++Rows.centralTicksSpec.plain.varTypes prog).any (prog.mapsRec ·)):Bool)=true:=by kernel_rfl
theorem wb:((Rows.centralTicksRow.ifaces == (f8.params.toList++Rows.centralTicksSpec.plain.varTypes prog).any (prog.ifacesRec ·)):Bool)=true:=by kernel_rfl
theorem wc:((Rows.centralTicksRow.mapsOut == prog.mapsAmong f8.resultTypes.toList):Bool)=true:=by kernel_rfl
theorem wd:((Rows.centralTicksRow.loops == (f8.params.toList++Rows.centralTicksSpec.plain.varTypes prog).any (prog.loopsFrom ·)):Bool)=true:=by kernel_rfl
theorem we:((Rows.centralTicksRow.wideKeys == (f8.params.toList++Rows.centralTicksSpec.plain.varTypes prog++f8.resultTypes.toList).any (prog.wideKeysFrom ·)):Bool)=true:=by kernel_rfl
theorem wg:(Rows.centralTicksSpec.vars.all (prog.varReadable ·):Bool)=true:=by kernel_rfl
theorem wh:(f8.resultTypes.all (fun t=>prog.readableRec t && decide (t<prog.types.size)):Bool)=true:=by kernel_rfl
theorem wi:((Rows.centralTicksRow.ifacesOut == f8.resultTypes.toList.any (prog.ifacesRec ·)):Bool)=true:=by kernel_rfl
theorem wj:((Rows.centralTicksRow.loopsOut == f8.resultTypes.toList.any (prog.loopsFrom ·)):Bool)=true:=by kernel_rfl
theorem wk:((Rows.centralTicksRow.plainKeys == prog.plainKeys):Bool)=true:=by kernel_rfl
theorem wl:(Rows.centralTicksRow.shortTexts.isNone:Bool)=true:=by kernel_rfl
theorem wm:(prog.stopsHeard:Bool)=true:=by kernel_rfl
theorem wn:(prog.mayEnter:Bool)=true:=by kernel_rfl
theorem wt:((Rows.centralTicksRow.lifted == prog.liftsFinal):Bool)=true:=by kernel_rfl
theorem wu:((prog.make == some Rows.centralTicksRow.make):Bool)=true:=by kernel_rfl
theorem wv:((Rows.centralTicksRow.kinds == (if Rows.centralTicksRow.domain.isEmpty then [] else f8.params.toList.map fun t=>match prog.underlying t with|some (.int k)=>some k|_=>none)):Bool)=true:=by kernel_rfl
theorem ww:((Rows.centralTicksRow.pinned == Rows.centralTicksRow.pinnedBy):Bool)=true:=by kernel_rfl
theorem wx:((Rows.centralTicksRow.veiled == (f8.params.toList++Rows.centralTicksSpec.plain.varTypes prog++f8.resultTypes.toList).any (prog.veiledRec ·)):Bool)=true:=by kernel_rfl
theorem wy:(Rows.centralTicksRow.veiledFits prog f8.params.toList (f8.params.toList++Rows.centralTicksSpec.plain.varTypes prog++f8.resultTypes.toList):Bool)=true:=by kernel_rfl
end
end Go.Proofs.YthpgjkjgkhjjlaaGreatDoor
