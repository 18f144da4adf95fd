/- Part K24 of a proof of statements of chapter 15 (no condition). -/
import Derived.Test.YtkkbopkbjacfmaaGreatDoorK16
import Derived.Test.YtkkbopkbjacfmaaGreatDoorK18
set_option linter.unusedVariables false
set_option linter.unusedSimpArgs false
set_option maxRecDepth 100000
set_option maxHeartbeats 64000000
namespace Go.Proofs.YtkkbopkbjacfmaaGreatDoor
open Go.RowKit Go.Proofs.Tryz
theorem pR (o:Opn) {b:Bool} (hB:iT o=b):FSpec prog 64 [o.a] [] [] (.b b) []:=by
 refine aS func64 ?_;unfold iT at hB;have kV:=oD o.proc;obtain ⟨v,hv⟩:=qGe (gm o.proc);rw [hv] at kV hB;cases v with
 | false =>
  obtain rfl:b=false:=by rw [<-hB];rfl
  exact QY
 | true =>
  by_cases hA:(o.label = -1\/1<=o.label/\o.label<=99)/\1<=o.cost/\o.cost<=1073741824/\o.lower.length<=8
  case neg =>
   obtain rfl:b=false:=by
    rw [<-hB];cases hh:(true && (decide (o.label = -1) || decide (1<=o.label) && decide (o.label<=99)) && decide (1<=o.cost) && decide (o.cost<=1073741824) && decide (o.lower.length<=8)) with
    | false=>rfl
    | true =>
     simp only [qBa,Bool.or_eq_true,decide_eq_true_eq] at hh;exact absurd ⟨hh.1.1.1.2,hh.1.1.2,hh.1.2,hh.2⟩ hA
   have hA':(o.label = -1\/1<=o.label/\o.label<=99)->1<=o.cost->o.cost<=1073741824->o.lower.length<=8->False:=fun a b c d=>hA ⟨a,b,c,d⟩;clear hA;repeat' (first|refine az ?_ ?_|refine fV ?_|refine ay ?_|exact aA|(refine ax fun hb=>?_;first|(exact (hA' (by omega) (by omega) (by omega) (by omega)).elim)|skip)|exact aT|fail)
  obtain ⟨hA1,hA2,hA3,hA4⟩:=hA;have e1:(decide (o.label = -1) || decide (1<=o.label) && decide (o.label<=99))=true:=by simpa using hA1
  rw [e1,qDt hA2,qDt hA3,qDt hA4] at hB;simp only [Bool.true_and] at hB;repeat' (first|refine az ?_ ?_|refine fV ?_|refine ay ?_|exact aA|refine ax fun hb=>?_)
  all_goals
   refine ab (fun y:Nat×Option ByteArray=>y.1<=o.lower.length/\(y.1=0/\y.2=none\/0<y.1/\∃z,o.lower[((y.1:Int)-1).toNat]? = some z/\y.2=some z.name)/\vT y.2 (o.lower.drop y.1)=b) (fun y=>bC [1] [(1,.c (.ptr 1 0)),(39,.c (.sl da o.lower)),(40,.i o.lower.length),(41,.i y.1)] [(1,.box 46 o.d)]) (fun y=>o.lower.length-y.1) (0,none) ⟨Nat.zero_le _,.inl ⟨rfl,rfl⟩,hB⟩ aL ?_;clear hB e1 kV;rintro ⟨i,p⟩ ⟨hi,hp,hs⟩;dsimp only at *
   by_cases hlt:i<o.lower.length
   ·obtain ⟨a,ha⟩:∃a,o.lower[i]? = some a:=⟨_,qGg hlt⟩;have ea:=qGs ha;rw [qDc hlt,ea,ng] at hs;have kN:=Dd a.name;have kU:=Jm a.am;obtain ⟨n,hn⟩:=qGe (bU a.name.toList);obtain ⟨u,hu⟩:=qGe (bj a.am);have hz:aJ a.am=decide (a.am=⟨0,0⟩):=rfl;rw [hn] at kN hs;rw [hu] at kU hs;rw [hz] at hs;clear hn hu hz;obtain ⟨G,hG⟩:=qGe (vT (some a.name) (o.lower.drop (i+1)));rw [hG] at hs;rcases hp with ⟨h0,rfl⟩|⟨h0,y,hy,rfl⟩
    ·have hs:(n && (decide (a.am=⟨0,0⟩) || u) && true && G)=b:=hs;repeat' (first|refine az ?_ ?_|refine fV ?_|refine ay ?_|exact aA|refine ax fun hb=>?_)
     any_goals (refine eR ?_;rw [<-hs];simp [*];done)
     all_goals
      refine ⟨(i+1,some a.name),⟨by dsimp only;omega,.inr ⟨by dsimp only;omega,a,?_,rfl⟩,?_⟩,by dsimp only;omega,?_⟩
      ·dsimp only;rw [<-ha];congr 1
       omega
      ·dsimp only;rw [<-hs,hG];simp [*]
      ·exact aL
    ·have hs:(n && (decide (a.am=⟨0,0⟩) || u) && Op.bytesLess y.name.toList a.name.toList && G)=b:=hs;repeat' (first|refine az ?_ ?_|refine fV ?_|refine ay ?_|exact aA|refine ax fun hb=>?_)
     any_goals (refine eR ?_;rw [<-hs];simp [*];done)
     all_goals
      refine ⟨(i+1,some a.name),⟨by dsimp only;omega,.inr ⟨by dsimp only;omega,a,?_,rfl⟩,?_⟩,by dsimp only;omega,?_⟩
      ·dsimp only;rw [<-ha];congr 1
       omega
      ·dsimp only;rw [<-hs,hG];simp [*]
      ·exact aL
   ·rw [qDn (by omega)] at hs;obtain rfl:b=true:=hs.symm;exact QY
end Go.Proofs.YtkkbopkbjacfmaaGreatDoor
