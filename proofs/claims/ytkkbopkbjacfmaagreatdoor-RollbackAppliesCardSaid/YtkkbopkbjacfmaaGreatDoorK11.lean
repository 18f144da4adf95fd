/- Part K11 of a proof of statements of chapter 15 (no condition). -/
import Derived.Test.YtkkbopkbjacfmaaGreatDoorK09
set_option linter.unusedVariables false
set_option linter.unusedSimpArgs false
set_option maxRecDepth 100000
set_option maxHeartbeats 64000000
namespace Go.Proofs.YtkkbopkbjacfmaaGreatDoor
open Go.RowKit
def Nw (a b:Int):Nat->Int->Int
 | 0,_=>0
 | n+1,m=>bif dK m a && dK m b then m else Nw a b n (m+1)
end Go.Proofs.YtkkbopkbjacfmaaGreatDoor
