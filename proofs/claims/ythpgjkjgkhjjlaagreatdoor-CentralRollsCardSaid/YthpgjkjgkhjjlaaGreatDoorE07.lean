/- Part E07 of a proof of statements of chapter 15 (no condition). -/
import Derived.Test.YthpgjkjgkhjjlaaGreatDoorChecked
import Derived.Test.YthpgjkjgkhjjlaaGreatDoorRows
import Derived.JoinedOf
import Derived.ProofKit
set_option linter.unusedVariables false
set_option linter.unusedSimpArgs false
set_option maxRecDepth 100000
set_option maxHeartbeats 64000000
namespace Go.Proofs.YthpgjkjgkhjjlaaGreatDoor
open Go.RowKit Go.Proofs.Tryz
section
open Go.ChangeShapes Go.WideShapes Go.ChangeAt
theorem zJ:(Rows.centralRollsRow.wf (OpenSpec.ofChange Rows.centralRollsSpec):Bool)=true:=by kernel_rfl
theorem zK:(laidOutB prog:Bool)=true:=by kernel_rfl
theorem zL:(mapsRowed prog:Bool)=true:=by kernel_rfl
theorem zM:(f7.params.all (prog.readableRec ·):Bool)=true:=by kernel_rfl
theorem zN:(namedTie prog Rows.centralRollsRow.named Rows.centralRollsSpec.vars:Bool)=true:=by kernel_rfl
theorem zO:((Rows.centralRollsRow.stops == []):Bool)=true:=by kernel_rfl
theorem zP:((prog.stops == []):Bool)=true:=by kernel_rfl
theorem zQ:((Rows.centralRollsRow.knobs == []):Bool)=true:=by kernel_rfl
theorem zR:((prog.stopKnobs == []):Bool)=true:=by kernel_rfl
theorem wC:((Rows.centralRollsRow.maps == (f7.params.toList++Rows.centralRollsSpec.plain.varTypes prog).any (prog.mapsRec ·)):Bool)=true:=by kernel_rfl
theorem wD:((Rows.centralRollsRow.ifaces == (f7.params.toList++Rows.centralRollsSpec.plain.varTypes prog).any (prog.ifacesRec ·)):Bool)=true:=by kernel_rfl
theorem wE:((Rows.centralRollsRow.mapsOut == prog.mapsAmong f7.resultTypes.toList):Bool)=true:=by kernel_rfl
theorem wF:((Rows.centralRollsRow.loops == (f7.params.toList++Rows.centralRollsSpec.plain.varTypes prog).any (prog.loopsFrom ·)):Bool)=true:=by kernel_rfl
theorem wG:((Rows.centralRollsRow.wideKeys == (f7.params.toList++Rows.centralRollsSpec.plain.varTypes prog++f7.resultTypes.toList).any (prog.wideKeysFrom ·)):Bool)=true:=by kernel_rfl
theorem wH:(Rows.centralRollsSpec.vars.all (prog.varReadable ·):Bool)=true:=by kernel_rfl
theorem wI:(f7.resultTypes.all (fun t=>prog.readableRec t && decide (t<prog.types.size)):Bool)=true:=by kernel_rfl
theorem wJ:((Rows.centralRollsRow.ifacesOut == f7.resultTypes.toList.any (prog.ifacesRec ·)):Bool)=true:=by kernel_rfl
theorem wK:((Rows.centralRollsRow.loopsOut == f7.resultTypes.toList.any (prog.loopsFrom ·)):Bool)=true:=by kernel_rfl
theorem wL:((Rows.centralRollsRow.plainKeys == prog.plainKeys):Bool)=true:=by kernel_rfl
theorem wM:(Rows.centralRollsRow.shortTexts.isNone:Bool)=true:=by kernel_rfl
theorem wN:(prog.stopsHeard:Bool)=true:=by kernel_rfl
theorem wO:(prog.mayEnter:Bool)=true:=by kernel_rfl
theorem wP:((Rows.centralRollsRow.lifted == prog.liftsFinal):Bool)=true:=by kernel_rfl
theorem wQ:((prog.make == some Rows.centralRollsRow.make):Bool)=true:=by kernel_rfl
theorem wR:((Rows.centralRollsRow.kinds == (if Rows.centralRollsRow.domain.isEmpty then [] else f7.params.toList.map fun t=>match prog.underlying t with|some (.int k)=>some k|_=>none)):Bool)=true:=by kernel_rfl
theorem wS:((Rows.centralRollsRow.pinned == Rows.centralRollsRow.pinnedBy):Bool)=true:=by kernel_rfl
theorem wT:((Rows.centralRollsRow.veiled == (f7.params.toList++Rows.centralRollsSpec.plain.varTypes prog++f7.resultTypes.toList).any (prog.veiledRec ·)):Bool)=true:=by kernel_rfl
theorem wU:(Rows.centralRollsRow.veiledFits prog f7.params.toList (f7.params.toList++Rows.centralRollsSpec.plain.varTypes prog++f7.resultTypes.toList):Bool)=true:=by kernel_rfl
end
end Go.Proofs.YthpgjkjgkhjjlaaGreatDoor
