/- Part 39 of 56 of the proof of both_hold (no condition). -/
import Derived.Test.YtcgpepnbohejfaaGreatDoorChecked
import Derived.Test.YtcgpepnbohejfaaGreatDoorRows
import Derived.JoinedOf
import Derived.ProofKit
set_option linter.unusedVariables false
set_option linter.unusedSimpArgs false
set_option maxRecDepth 100000
set_option maxHeartbeats 64000000
namespace Go.Proofs.YtcgpepnbohejfaaGreatDoor
open Go.RowKit Go.Proofs.Tryz
section
open Go.ChangeShapes Go.WideShapes Go.ChangeAt
theorem rA:(Rows.centralSafeRow.wf (OpenSpec.ofChange Rows.centralSafeSpec):Bool)=true:=by kernel_rfl
theorem rB:(laidOutB prog:Bool)=true:=by kernel_rfl
theorem rC:(mapsRowed prog:Bool)=true:=by kernel_rfl
theorem rD:(Tryz.f3.params.all (prog.readableRec ·):Bool)=true:=by kernel_rfl
theorem rE:(namedTie prog Rows.centralSafeRow.named Rows.centralSafeSpec.vars:Bool)=true:=by kernel_rfl
theorem rF:((Rows.centralSafeRow.stops == []):Bool)=true:=by kernel_rfl
theorem rG:((prog.stops == []):Bool)=true:=by kernel_rfl
theorem rH:((Rows.centralSafeRow.knobs == []):Bool)=true:=by kernel_rfl
theorem rI:((prog.stopKnobs == []):Bool)=true:=by kernel_rfl
theorem qp:((Rows.centralSafeRow.maps == (Tryz.f3.params.toList++Rows.centralSafeSpec.plain.varTypes prog).any (prog.mapsRec ·)):Bool)=true:=by kernel_rfl
theorem qr:((Rows.centralSafeRow.ifaces == (Tryz.f3.params.toList++Rows.centralSafeSpec.plain.varTypes prog).any (prog.ifacesRec ·)):Bool)=true:=by kernel_rfl
theorem qs:((Rows.centralSafeRow.mapsOut == prog.mapsAmong Tryz.f3.resultTypes.toList):Bool)=true:=by kernel_rfl
theorem qt:((Rows.centralSafeRow.loops == (Tryz.f3.params.toList++Rows.centralSafeSpec.plain.varTypes prog).any (prog.loopsFrom ·)):Bool)=true:=by kernel_rfl
theorem qu:((Rows.centralSafeRow.wideKeys == (Tryz.f3.params.toList++Rows.centralSafeSpec.plain.varTypes prog++Tryz.f3.resultTypes.toList).any (prog.wideKeysFrom ·)):Bool)=true:=by kernel_rfl
theorem qv:(Rows.centralSafeSpec.vars.all (prog.varReadable ·):Bool)=true:=by kernel_rfl
theorem qw:(Tryz.f3.resultTypes.all (fun t=>prog.readableRec t && decide (t<prog.types.size)):Bool)=true:=by kernel_rfl
theorem qz:((Rows.centralSafeRow.ifacesOut == Tryz.f3.resultTypes.toList.any (prog.ifacesRec ·)):Bool)=true:=by kernel_rfl
theorem qA:((Rows.centralSafeRow.loopsOut == Tryz.f3.resultTypes.toList.any (prog.loopsFrom ·)):Bool)=true:=by kernel_rfl
theorem qB:((Rows.centralSafeRow.plainKeys == prog.plainKeys):Bool)=true:=by kernel_rfl
theorem qC:(Rows.centralSafeRow.shortTexts.isNone:Bool)=true:=by kernel_rfl
theorem qD:(prog.stopsHeard:Bool)=true:=by kernel_rfl
theorem qE:(prog.mayEnter:Bool)=true:=by kernel_rfl
theorem qF:((Rows.centralSafeRow.lifted == prog.liftsFinal):Bool)=true:=by kernel_rfl
theorem qG:((prog.make == some Rows.centralSafeRow.make):Bool)=true:=by kernel_rfl
theorem qH:((Rows.centralSafeRow.kinds == (if Rows.centralSafeRow.domain.isEmpty then [] else Tryz.f3.params.toList.map fun t=>match prog.underlying t with|some (.int k)=>some k|_=>none)):Bool)=true:=by kernel_rfl
theorem qI:((Rows.centralSafeRow.pinned == Rows.centralSafeRow.pinnedBy):Bool)=true:=by kernel_rfl
theorem qJ:((Rows.centralSafeRow.veiled == (Tryz.f3.params.toList++Rows.centralSafeSpec.plain.varTypes prog++Tryz.f3.resultTypes.toList).any (prog.veiledRec ·)):Bool)=true:=by kernel_rfl
theorem qK:(Rows.centralSafeRow.veiledFits prog Tryz.f3.params.toList (Tryz.f3.params.toList++Rows.centralSafeSpec.plain.varTypes prog++Tryz.f3.resultTypes.toList):Bool)=true:=by kernel_rfl
end
end Go.Proofs.YtcgpepnbohejfaaGreatDoor
