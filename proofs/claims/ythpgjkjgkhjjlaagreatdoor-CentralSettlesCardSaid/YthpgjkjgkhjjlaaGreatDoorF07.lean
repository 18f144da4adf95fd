/- Part F07 of a proof of statements of chapter 15 (no condition). -/
import Derived.Test.YthpgjkjgkhjjlaaGreatDoorChecked
import Derived.Test.YthpgjkjgkhjjlaaGreatDoorRows
import Derived.JoinedOf
import Derived.ProofKit
set_option linter.unusedVariables false
set_option linter.unusedSimpArgs false
set_option maxRecDepth 100000
set_option maxHeartbeats 64000000
namespace Go.Proofs.YthpgjkjgkhjjlaaGreatDoor
open Go.RowKit Go.Proofs.Tryz
section
open Go.ChangeShapes Go.WideShapes Go.ChangeAt
theorem t6:(Rows.centralSettlesRow.wf (OpenSpec.ofChange Rows.centralSettlesSpec):Bool)=true:=by kernel_rfl
theorem t7:(laidOutB prog:Bool)=true:=by kernel_rfl
theorem t8:(mapsRowed prog:Bool)=true:=by kernel_rfl
theorem ua:(f5.params.all (prog.readableRec ·):Bool)=true:=by kernel_rfl
theorem ub:(namedTie prog Rows.centralSettlesRow.named Rows.centralSettlesSpec.vars:Bool)=true:=by kernel_rfl
theorem uc:((Rows.centralSettlesRow.stops == []):Bool)=true:=by kernel_rfl
theorem ud:((prog.stops == []):Bool)=true:=by kernel_rfl
theorem ue:((Rows.centralSettlesRow.knobs == []):Bool)=true:=by kernel_rfl
theorem uf:((prog.stopKnobs == []):Bool)=true:=by kernel_rfl
theorem rz:((Rows.centralSettlesRow.maps == (f5.params.toList++Rows.centralSettlesSpec.plain.varTypes prog).any (prog.mapsRec ·)):Bool)=true:=by kernel_rfl
theorem rA:((Rows.centralSettlesRow.ifaces == (f5.params.toList++Rows.centralSettlesSpec.plain.varTypes prog).any (prog.ifacesRec ·)):Bool)=true:=by kernel_rfl
theorem rB:((Rows.centralSettlesRow.mapsOut == prog.mapsAmong f5.resultTypes.toList):Bool)=true:=by kernel_rfl
theorem rC:((Rows.centralSettlesRow.loops == (f5.params.toList++Rows.centralSettlesSpec.plain.varTypes prog).any (prog.loopsFrom ·)):Bool)=true:=by kernel_rfl
theorem rD:((Rows.centralSettlesRow.wideKeys == (f5.params.toList++Rows.centralSettlesSpec.plain.varTypes prog++f5.resultTypes.toList).any (prog.wideKeysFrom ·)):Bool)=true:=by kernel_rfl
theorem rE:(Rows.centralSettlesSpec.vars.all (prog.varReadable ·):Bool)=true:=by kernel_rfl
theorem rF:(f5.resultTypes.all (fun t=>prog.readableRec t && decide (t<prog.types.size)):Bool)=true:=by kernel_rfl
theorem rG:((Rows.centralSettlesRow.ifacesOut == f5.resultTypes.toList.any (prog.ifacesRec ·)):Bool)=true:=by kernel_rfl
theorem rH:((Rows.centralSettlesRow.loopsOut == f5.resultTypes.toList.any (prog.loopsFrom ·)):Bool)=true:=by kernel_rfl
theorem rI:((Rows.centralSettlesRow.plainKeys == prog.plainKeys):Bool)=true:=by kernel_rfl
theorem rJ:(Rows.centralSettlesRow.shortTexts.isNone:Bool)=true:=by kernel_rfl
theorem rK:(prog.stopsHeard:Bool)=true:=by kernel_rfl
theorem rL:(prog.mayEnter:Bool)=true:=by kernel_rfl
theorem rM:((Rows.centralSettlesRow.lifted == prog.liftsFinal):Bool)=true:=by kernel_rfl
theorem rN:((prog.make == some Rows.centralSettlesRow.make):Bool)=true:=by kernel_rfl
theorem rO:((Rows.centralSettlesRow.kinds == (if Rows.centralSettlesRow.domain.isEmpty then [] else f5.params.toList.map fun t=>match prog.underlying t with|some (.int k)=>some k|_=>none)):Bool)=true:=by kernel_rfl
theorem rP:((Rows.centralSettlesRow.pinned == Rows.centralSettlesRow.pinnedBy):Bool)=true:=by kernel_rfl
theorem rQ:((Rows.centralSettlesRow.veiled == (f5.params.toList++Rows.centralSettlesSpec.plain.varTypes prog++f5.resultTypes.toList).any (prog.veiledRec ·)):Bool)=true:=by kernel_rfl
theorem rR:(Rows.centralSettlesRow.veiledFits prog f5.params.toList (f5.params.toList++Rows.centralSettlesSpec.plain.varTypes prog++f5.resultTypes.toList):Bool)=true:=by kernel_rfl
end
end Go.Proofs.YthpgjkjgkhjjlaaGreatDoor
