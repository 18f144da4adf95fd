/- Part 7 of 56 of the proof of both_hold (no condition). -/
import Derived.Test.YtcgpepnbohejfaaGreatDoorK04
set_option linter.unusedVariables false
set_option linter.unusedSimpArgs false
set_option maxRecDepth 100000
set_option maxHeartbeats 64000000
namespace Go.Proofs.YtcgpepnbohejfaaGreatDoor
open Go.RowKit
def br (a:Am):Bool:=bM a.mode && decide (a.units=0) || decide (a.mode=0) && decide (1≤a.units) && decide (a.units≤8)
def rk (x:Wt):Bool:=j8 x.proc && br x.am && decide (0≤x.prio) && decide (x.prio≤7) && decide (0≤x.passed) && decide (x.passed≤3)
def fZ (p:Pr):Nat→List Wt→Int
 | _,[]=>-1
 | k,x :: l=>bif decide (x.proc=p) then (k:Int) else fZ p (k+1) l
def dB (l:List Wt) (p:Pr):Int:=fZ p 0 l
def uX (all:List Wt):Nat→List Wt→Bool
 | _,[]=>true
 | k,x :: l=>rk x && decide (dB all x.proc=(k:Int)) && uX all (k+1) l
def fD (l:List Wt):Bool:=decide (l.length≤8) && uX l 0 l
theorem mj (all:List Wt) (k:Nat) (x:Wt) (l:List Wt):uX all k (x :: l)=(rk x && decide (dB all x.proc=(k:Int)) && uX all (k+1) l):=rfl
theorem ew (p:Pr) (k:Nat) (x:Wt) (l:List Wt):fZ p k (x :: l)=bif decide (x.proc=p) then (k:Int) else fZ p (k+1) l:=rfl
theorem uY (m u:Int):br ⟨m,u⟩=(aC ⟨⟨#[]⟩,1,1,0⟩ ⟨m,u⟩ || aC ⟨⟨#[]⟩,2,8,0⟩ ⟨m,u⟩):=by
 unfold br aC aU;simp
theorem ll (l:List Ho) (p:Pr):(eB l p).length≤l.length:=List.length_filter_le _ _
end Go.Proofs.YtcgpepnbohejfaaGreatDoor
