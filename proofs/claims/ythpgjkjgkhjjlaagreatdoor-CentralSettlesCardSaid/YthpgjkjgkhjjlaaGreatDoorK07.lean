/- Part K07 of a proof of statements of chapter 15 (no condition). -/
import Derived.Test.YthpgjkjgkhjjlaaGreatDoorK05
import Derived.Test.YthpgjkjgkhjjlaaGreatDoorK04
set_option linter.unusedVariables false
set_option linter.unusedSimpArgs false
set_option maxRecDepth 100000
set_option maxHeartbeats 64000000
namespace Go.Proofs.YthpgjkjgkhjjlaaGreatDoor
open Go.RowKit
def fL (l:List Ho) (p:Pr):List Ho:=l.filter fun h=>!decide (h.proc=p)
def oq (x:Ho):List Ho->List Ho
 | []=>[x]
 | h :: l=>bif decide (0<cl h.proc x.proc) then x :: h :: l else h :: oq x l
def cw (l:List Ho) (p:Pr) (a:Am):List Ho:=bif aR a then fL l p else oq ⟨p,a⟩ (fL l p)
theorem nU (h:Ho) (l:List Ho) (p:Pr):fL (h :: l) p=bif decide (h.proc=p) then fL l p else h :: fL l p:=by
 unfold fL;rw [List.filter_cons];cases decide (h.proc=p) <;> rfl
theorem jg (x h:Ho) (l:List Ho):oq x (h :: l)=bif decide (0<cl h.proc x.proc) then x :: h :: l else h :: oq x l:=rfl
theorem py (l:List Ho) (p:Pr):(fL l p).length<=l.length:=List.length_filter_le _ _
section
def Au (r:Rs) (l:List Ho) (p:Pr) (a:Am):Bool:=zX r l && jW p && aS r a
def gO (r:Rs) (l:List Ho) (p:Pr) (a:Am):Bool:=Au r l p a && zX r (cw l p a)
theorem pz (x:Ho):∀l:List Ho,(oq x l).length=l.length+1
 | []=>rfl
 | h :: l=>by
  rw [jg];cases decide (0<cl h.proc x.proc) <;> simp [pz x l]
theorem Dl (l:List Ho) (p:Pr) (a:Am):(cw l p a).length<=l.length+1:=by
 have:=py l p;unfold cw;cases aR a
 ·simp [pz];omega
 ·simp;omega
variable {w v v':World} {nm:ByteArray} {kd un h x y z m u:Int}
end
end Go.Proofs.YthpgjkjgkhjjlaaGreatDoor
