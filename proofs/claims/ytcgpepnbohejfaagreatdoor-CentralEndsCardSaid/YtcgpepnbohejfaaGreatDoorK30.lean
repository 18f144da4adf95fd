/- Part 30 of 56 of the proof of both_hold (no condition). -/
import Derived.Test.YtcgpepnbohejfaaGreatDoorK27
import Derived.Test.YtcgpepnbohejfaaGreatDoorK28
set_option linter.unusedVariables false
set_option linter.unusedSimpArgs false
set_option maxRecDepth 100000
set_option maxHeartbeats 64000000
namespace Go.Proofs.YtcgpepnbohejfaaGreatDoor
open Go.RowKit Go.Proofs.Tryz
theorem zt {p:Pr}:∀{l:List Pc} {k:Nat},cD p k l<0→∀x∈l,x.proc≠p
 | y :: l,k,h,x,hx=>by
  have h:(bif decide (y.proc=p) then (k:Int) else cD p (k+1) l)<0:=h;by_cases e:y.proc=p
  ·rw [decide_eq_true e,cond_true] at h;omega
  ·rw [decide_eq_false e,cond_false] at h;rcases List.mem_cons.1 hx with rfl|hx
   ·exact e
   ·exact zt h x hx
def JK (p:Pr) (cost:Int):List D:=[.sc (.int .i64 p.site),.sc (.int .i64 p.inc),.sc (.int .i64 p.num),.sc (.int .i64 cost),.sc (.slice none 0 0),.sc (.slice none 0 0),.sc (.bool false),.sc (.int .i64 0),.sc (.string ⟨#[]⟩),.sc (.int .i64 0),.sc (.int .i64 0),.sc (.slice none 0 0),.sc (.int .i64 0),.sc (.int .i64 0),.sc (.int .i64 0),.sc (.int .i64 0)]
theorem E8 (d:Nat) {p:Pr} {cost:Int} {w:World} {F:Nat→Prop} {ρ:Nat→Value} {vs:List Value} (h:All2 (D.rep w F ρ) (JK p cost) vs):(fu d).rep w F { Eo with proc:=p,cost:=cost } vs:=by
 match vs,h with
 | [_,_,_,_,_,_,_,_,_,_,_,_,_,_,_,_],⟨rfl,rfl,rfl,rfl,rfl,rfl,rfl,rfl,rfl,rfl,rfl,rfl,rfl,rfl,rfl,rfl,_⟩ =>
  exact ⟨none,0,none,0,none,0,rfl,RowsAt.nil _ _ _ _,⟨Nat.zero_le _,Nat.zero_le _⟩,RowsAt.nil _ _ _ _,⟨Nat.zero_le _,Nat.zero_le _⟩,RowsAt.nil _ _ _ _,⟨Nat.zero_le _,Nat.zero_le _⟩⟩
theorem GT (d:Nat) (w:Wk) (p:Pr) (cost:Int) (h8:w.c.procs.length≤8) (hup:Ii p w.c.procs) {Z:Wk×Int} (hZ:j6 w p cost=Z):FSpec prog 44 [iS,p.a,uu cost] (HP d w) [3,4] (.i Z.2) (HR d Z.1):=by
 refine aT func44 ?_;unfold j6 at hZ;have kV:=eZ p;obtain ⟨bA,hA⟩:∃b,(j8 p && decide (1≤cost) && decide (cost≤1000))=b:=⟨_,rfl⟩;rw [hA] at hZ;cases bA with
 | false =>
  obtain rfl:(w,1)=Z:=hZ;obtain ⟨v,hv⟩:∃v,j8 p=v:=⟨_,rfl⟩;rw [hv] at kV hA;cases v with
  | false =>
   repeat' (first|refine af ?_ ?_|refine aa 9 rfl (cB [] (kV) ?_)|refine ae ?_|exact ah|refine ab fun hb=>?_|(refine ct (qf [(3,1),(4,2)]) ?_;exact aw))
  | true =>
   simp only [Bool.true_and,Bool.and_eq_false_iff,decide_eq_false_iff_not] at hA;by_cases h1:1≤cost
   ·repeat' (first|refine af ?_ ?_|refine aa 9 rfl (cB [] (kV) ?_)|refine ae ?_|exact ah|refine ab fun hb=>?_|(refine ct (qf [(3,1),(4,2)]) ?_;exact aw))
   ·repeat' (first|refine af ?_ ?_|refine aa 9 rfl (cB [] (kV) ?_)|refine ae ?_|exact ah|refine ab fun hb=>?_|(refine ct (qf [(3,1),(4,2)]) ?_;exact aw))
 | true =>
  simp only [Bool.and_eq_true,decide_eq_true_eq] at hA;obtain ⟨⟨hv,h1⟩,h2⟩:=hA;rw [hv] at kV;rw [Bool.not_true,cond_false] at hZ;obtain ⟨ix,hix⟩:∃ix,cD p 0 w.c.procs=ix:=⟨_,rfl⟩;have kI:=uO d w.c.procs p (by omega) hix;rw [hix] at hZ;by_cases h0:0≤ix
  ·obtain rfl:(w,11)=Z:=by rw [←hZ,decide_eq_true h0];rfl
   repeat' (first|refine af ?_ ?_|(refine aa 9 rfl ?_;first|(refine cB [] (kV) ?_)|(refine cH (qf [(1,1)]) (kI) ?_))|(refine aa 21 rfl ?_;first|refine sx (aq rfl rfl) ?_|refine sx (aE rfl rfl) ?_)|refine ae ?_|exact ah|refine ab fun hb=>?_|(refine ct (qf [(3,1),(4,2)]) ?_;exact aw))
  ·rw [decide_eq_false h0,cond_false] at hZ;by_cases hl:w.c.procs.length=8
   ·obtain rfl:(w,4)=Z:=by rw [←hZ,decide_eq_true hl];rfl
    repeat' (first|refine af ?_ ?_|(refine aa 9 rfl ?_;first|(refine cB [] (kV) ?_)|(refine cH (qf [(1,1)]) (kI) ?_))|(refine aa 21 rfl ?_;first|refine sx (aq rfl rfl) ?_|refine sx (aE rfl rfl) ?_)|refine ae ?_|exact ah|refine ab fun hb=>?_|(refine ct (qf [(3,1),(4,2)]) ?_;exact aw))
   ·rw [decide_eq_false hl,cond_false] at hZ;have hno:=zt (by rw [hix];omega);obtain ⟨P,hP⟩:∃P,w.c.procs=P:=⟨_,rfl⟩;obtain ⟨x,hx⟩:∃x,({ Eo with proc:=p,cost:=cost }:Pc)=x:=⟨_,rfl⟩;have hxp:x.proc=p:=by rw [←hx]
    have hZ:((⟨{ w.c with procs:=jV x w.c.procs },w.ev⟩,0):Wk×Int)=Z:=by rw [←hx];exact hZ
    have h00:∀(w:World) (F:Nat→Prop) (ρ:Nat→Value) (vs:List Value),All2 (D.rep w F ρ) (JK p cost) vs→(fu d).rep w F x vs:=fun w F ρ vs h=>by
     rw [←hx];exact E8 d h
    have hPl:w.c.procs.length=P.length:=by rw [hP]
    rw [hP] at h8 hl hup hno;repeat' (first|refine af ?_ ?_|(refine aa 9 rfl ?_;first|(refine cB [] (kV) ?_)|(refine cH (qf [(1,1)]) (kI) ?_))|(refine aa 21 rfl ?_;first|refine sx (aq rfl rfl) ?_|refine sx (aE rfl rfl) ?_)|refine ae ?_|exact ah|(refine ab fun hb=>?_;first|(exfalso;omega)|skip))
    clear hx hix kI kV;refine ak (fun i=>i≤P.length∧∀j (hj:j<P.length),j<i→bC P[j].proc p<0) (fun i=>cq [0,1,2,4] [(0,.v iS),(2,.i cost),(4,.c (.ptr 4 0)),(7,.i i)] [(0,.box 91 (ze w 2)),(1,.arr 66 (fu d) P),(2,.arr 79 iQ w.ev),(4,.box 40 [.sc (.int .i64 p.site),.sc (.int .i64 p.inc),.sc (.int .i64 p.num)])]) (fun i=>P.length-i) 0 ⟨Nat.zero_le _,fun j _ h=>absurd h (by omega)⟩ (by rw [←hP];exact a7) ?_;rintro i ⟨hi,hs⟩;have fin:(∀j (hj:j<P.length),i≤j→0<bC P[j].proc p)→P.take i++x :: P.drop i=jV x w.c.procs:=fun h=>by
     rw [hP];exact (Dc x P i hi (fun j hj hji=>by rw [hxp];have:=hs j hj hji;omega) (fun j hj hij=>by rw [hxp];exact h j hj hij)).symm
    by_cases hlt:i<P.length
    ·obtain ⟨z,hz⟩:∃z,P[i]=z:=⟨_,rfl⟩;have hgz:P[i]? = some z:=by rw [List.getElem?_eq_getElem hlt,hz]
     obtain ⟨e,he⟩:∃e,bC z.proc p=e:=⟨_,rfl⟩;have kC:=g4 z.proc p;rw [he] at kC;by_cases h0:e<0
     ·repeat' (first
       | refine af ?_ ?_
       | refine aa 9 rfl (cB [1] (kC) ?_)
       | (refine aa 21 rfl ?_;first|refine sx (aq rfl rfl) ?_|refine sx (aE rfl rfl) ?_)
       | refine ae ?_
       | exact ah|(refine ab fun hb=>?_;first|(exfalso;omega)|skip))
      refine ⟨i+1,⟨by omega,fun j hj hji=>?_⟩,by omega,?_⟩
      ·by_cases e2:j=i
       ·subst e2;rw [hz,he];exact h0
       ·exact hs j hj (by omega)
      ·exact a7
     ·have hpos:0<bC P[i].proc p:=by
       have:e≠0:=fun h=>hno z (hz▸List.getElem_mem hlt) ((jw _ _).1 (by rw [he];exact h));rw [hz,he];omega
      have hf:=fin fun j hj hij=>hup i j hlt hj hij hpos;have kN:=yN d P i x h00 (by omega) hi hf;obtain rfl:Z=(⟨{ w.c with procs:=jV x w.c.procs },w.ev⟩,0):=hZ.symm;clear fin hs hup hno hf;repeat' (first|refine af ?_ ?_|(refine aa 9 rfl ?_;first|(refine cB [1] (kC) ?_)|(refine cH (qf [(1,1),(2,1001),(3,71)]) (kN) ?_))|(refine aa 21 rfl ?_;first|refine sx (aq rfl rfl) ?_|refine sx (aE rfl rfl) ?_)|refine ae ?_|exact ah|(refine ab fun hb=>?_;first|(exfalso;omega)|skip)|(refine ct (qf [(3,1001),(4,2)]) ?_;exact aw))
    ·have hf:=fin fun j hj hij=>absurd hj (by omega);have kN:=yN d P i x h00 (by omega) hi hf;obtain rfl:Z=(⟨{ w.c with procs:=jV x w.c.procs },w.ev⟩,0):=hZ.symm;clear fin hs hup hno hf;repeat' (first|refine af ?_ ?_|refine aa 9 rfl (cH (qf [(1,1),(2,1001),(3,71)]) (kN) ?_)|(refine aa 21 rfl ?_;first|refine sx (aq rfl rfl) ?_|refine sx (aE rfl rfl) ?_)|refine ae ?_|exact ah|(refine ab fun hb=>?_;first|(exfalso;omega)|skip)|(refine ct (qf [(3,1001),(4,2)]) ?_;exact aw))
theorem AX (d:Nat) (w:Wk) (i:Nat) (r:Rq) {x:Pc} (hx:w.c.procs[i]? = some x) (h:CI w.c) (hev:w.ev.length≤400000) {Z:Wk×Int} (hZ:ck w i r=Z):FSpec prog 46 [iS,pp i,r.a d] (HP d w) [4] (.i Z.2) (HQ d Z.1):=by
 refine aT func46 ?_;have hi:=(List.getElem?_eq_some_iff.1 hx).1;have hpc:=fI hx;rw [xV] at hZ;cases hw:x.waiting with
 | true =>
  rw [hpc,hw] at hZ;obtain rfl:(w,14)=Z:=hZ;repeat' (first|refine af ?_ ?_|(refine aa 21 rfl ?_;first|refine sx (aq rfl rfl) ?_|refine sx (aE rfl rfl) ?_)|refine ae ?_|exact ah|refine ab fun hb=>?_|(refine ct (qf [(4,2)]) ?_;exact aw))
 | false =>
 have hw':(w.pc i).waiting=false:=by rw [hpc];exact hw
 rw [hpc,hw,cond_false] at hZ;cases hq:sV r with
 | false =>
  rw [hq] at hZ;obtain rfl:(w,1)=Z:=hZ;have kV:=qk d r hq;repeat' (first|refine af ?_ ?_|refine aa 9 rfl (cB [] (kV) ?_)|(refine aa 21 rfl ?_;first|refine sx (aq rfl rfl) ?_|refine sx (aE rfl rfl) ?_)|refine ae ?_|exact ah|refine ab fun hb=>?_|(refine ct (qf [(4,2)]) ?_;exact aw))
 | true =>
 have kV:=qk d r hq;rw [hq,Bool.not_true,cond_false] at hZ;have hV:=h.tv;have kM:=FB w.c.queues (by have:=(bE hV).1;omega);obtain ⟨c,hc⟩:∃c,iP w.c.queues r.expr=c:=⟨_,rfl⟩;have kR:=wO d w.c.queues r.expr hV hc;by_cases h0:c=0
 case neg =>
  rw [hc,decide_eq_false h0] at hZ;obtain rfl:(w,c)=Z:=hZ;repeat' (first|refine af ?_ ?_|(refine aa 9 rfl ?_;first|(refine cB [] (kV) ?_)|(refine cC [] (kM) ?_)|(refine cB [] (kR) ?_))|(refine aa 21 rfl ?_;first|refine sx (aq rfl rfl) ?_|refine sx (aE rfl rfl) ?_)|refine ae ?_|exact ah|(refine ab fun hb=>?_;first|(exact absurd hb h0)|skip)|(refine ct (qf [(4,2)]) ?_;exact aw))
 subst h0;obtain ⟨c2,_,_,hnm⟩:=nJ h hi hw' hq hc;rw [hc,decide_eq_true rfl] at hZ;have hv:kf r.expr=true:=by unfold sV at hq;simp only [Bool.and_eq_true] at hq;exact hq.1.1.1.1
 have h24:r.expr.cnt≤24:=by have h:=hv;simp [kf,wW] at h;exact h.1.2
 obtain ⟨_,hrsl⟩:=mK hc;have h8:=dQ r.expr;obtain ⟨L,hL⟩:∃L,cJ r.expr=L:=⟨_,rfl⟩;have kA:=iC d r.expr hL;have kE:=zr r.expr d (by omega);have s1:=gl hi { x with waiting:=true };have l1:i<(w.c.procs.set i { x with waiting:=true }).length:=by rw [List.length_set];exact hi
 have s2:=gl l1 { x with waiting:=true,req:=r };have l2:i<((w.c.procs.set i { x with waiting:=true }).set i { x with waiting:=true,req:=r }).length:=by rw [List.length_set];exact l1
 have s3:=gl l2 { x with waiting:=true,req:=r,since:=w.c.now };obtain ⟨B,hB⟩:∃B,B=(((w.setP i { x with waiting:=true }).setP i { x with waiting:=true,req:=r }).setP i { x with waiting:=true,req:=r,since:=w.c.now }).setP i { x with waiting:=true,req:=r,since:=w.c.now,gen:=aJ x.gen }:=⟨_,rfl⟩;have hBe:IJ w i r=B:=by
  unfold IJ;rw [hpc];unfold aY;rw [eM hi,fa,hB,fa,fa,fa]
 have hS:CD w i r=co x.proc r.prio L B:=by
  unfold CD;rw [hBe,hpc,hL]
 have hev2:=p9 x.proc r.prio L B;have hBev:B.ev.length=w.ev.length:=by rw [hB];rfl
 have hBq:B.c.queues=w.c.queues:=by rw [hB];rfl
 have hBp:∃v,B.c.procs[i]? = some v∧v.proc=x.proc:=⟨{ x with waiting:=true,req:=r,since:=w.c.now,gen:=aJ x.gen },by rw [hB];exact gl (by rw [show ((((w.setP i { x with waiting:=true }).setP i { x with waiting:=true,req:=r }).setP i { x with waiting:=true,req:=r,since:=w.c.now }).c.procs)=((w.c.procs.set i { x with waiting:=true }).set i { x with waiting:=true,req:=r }).set i { x with waiting:=true,req:=r,since:=w.c.now } from rfl,List.length_set];exact l2) _,rfl⟩;rw [hS] at hZ c2 hnm;rw [hL] at hrsl h8;obtain ⟨W,hW⟩:∃W,co x.proc r.prio L B=W:=⟨_,rfl⟩;rw [hW] at hZ c2 hnm hev2;have hWne:L=[]∨W.c.queues≠[]:=by
  cases L with
  | nil=>exact .inl rfl
  | cons a l=>exact .inr (zo hnm (qi (hrsl a (by simp)).1))
 obtain ⟨F,hF⟩:∃F,aW W.c.procs.length W=F:=⟨_,rfl⟩;have kS:=jP d W _ (AP c2 (by omega));rw [hF] at kS hZ;obtain rfl:(F,(0:Int))=Z:=hZ;have hBl:B.ev.length+18*L.length≤500000:=by omega
 clear hS hBe hc c2 hnm hrsl hF hv hq hV hL hw' hpc hev2 hBev hBq h24;subst hB;repeat' (first|refine af ?_ ?_|(refine aa 9 rfl ?_;first|(refine cB [] (kV) ?_)|(refine cC [] (kM) ?_)|(refine cB [] (kR) ?_)|(refine cC [] (kE) ?_)|(refine cB [] (g6 x.gen) ?_)|(refine cC [] (kA) ?_))|(refine aa 21 rfl ?_;first|refine sx (aq rfl rfl) ?_|refine sx (aE rfl rfl) ?_)|refine ae ?_|(refine aa 4 rfl ?_;first|(refine bc (aA (z:={ x with waiting:=true }) rfl rfl rfl rfl hx rfl rfl rfl rfl (Nat.le_of_ble_eq_true rfl) rfl rfl) rfl rfl rfl ?_)|(refine bc (aA (z:={ x with waiting:=true,req:=r }) rfl rfl rfl rfl s1 rfl rfl rfl rfl (Nat.le_of_ble_eq_true rfl) rfl rfl) rfl rfl rfl ?_)|(refine bc (lL (z:={ x with waiting:=true,req:=r }) rfl rfl rfl rfl s1 rfl rfl rfl rfl (Nat.le_of_ble_eq_true rfl) (by (repeat' (first|exact trivial|exact .same _|exact .nil|refine ⟨?_,?_⟩));first|done|fail) rfl) rfl rfl rfl ?_)|(refine bc (aA (z:={ x with waiting:=true,req:=r,since:=w.c.now }) rfl rfl rfl rfl s2 rfl rfl rfl rfl (Nat.le_of_ble_eq_true rfl) rfl rfl) rfl rfl rfl ?_)|(refine bc (aA (z:={ x with waiting:=true,req:=r,since:=w.c.now,gen:=aJ x.gen }) rfl rfl rfl rfl s3 rfl rfl rfl rfl (Nat.le_of_ble_eq_true rfl) rfl rfl) rfl rfl rfl ?_))|exact ah|(refine ab fun hb=>?_;first|(exact absurd rfl hb)|skip))
 refine ak (fun y:Nat×Wk=>y.1≤L.length∧co x.proc r.prio (L.drop y.1) y.2=W∧y.2.ev.length+18*(L.length-y.1)≤500000∧∃v,y.2.c.procs[i]? = some v∧v.proc=x.proc) (fun y=>cq [0,1,2,5,1011] [(0,.v iS),(1,.v (pp i)),(5,.c (.ptr 5 0)),(58,.c (.sl c7 L)),(59,.i L.length),(60,.i y.1)] [(0,.box 91 (ze y.2 1011)),(1,.arr 66 (fu d) y.2.c.procs),(5,.box 49 (r.d d)),(1011,.arr 79 iQ y.2.ev)]) (fun y=>L.length-y.1) (0,(((w.setP i { x with waiting:=true }).setP i { x with waiting:=true,req:=r }).setP i { x with waiting:=true,req:=r,since:=w.c.now }).setP i { x with waiting:=true,req:=r,since:=w.c.now,gen:=aJ x.gen }) ⟨Nat.zero_le _,hW,hBl,hBp⟩ (by exact bw (qf [(1011,2)])) ?_;clear hx s1 s2 s3 l1 l2 hW hBl hBp kA kE kR kM kV;rintro ⟨k,u⟩ ⟨hk,hu,hue,v,hv1,hv2⟩;dsimp only at *
 by_cases hlt:k<L.length
 ·rw [List.drop_eq_getElem_cons hlt] at hu;obtain ⟨a,ha⟩:∃a,L[k]=a:=⟨_,rfl⟩;have hga:L[k]? = some a:=by rw [List.getElem?_eq_getElem hlt,ha]
  rw [ha] at hu;obtain ⟨R,hR⟩:∃R,bt u.c.queues x.proc a r.prio=R:=⟨_,rfl⟩;have hRl:=p6 u.c.queues x.proc a r.prio;have hu:co x.proc r.prio (L.drop (k+1)) (u.take R.1 R.2.1)=W:=by rw [←hR];exact hu
  have h00:R.2.2=0:=Classical.byContradiction fun hne=>by
   have e1:R.1=[]:=by rw [←hR];exact xX (by rw [hR];exact hne)
   have e2:=qc (p:=x.proc) (prio:=r.prio) (l:=L.drop (k+1)) (w:=u.take R.1 R.2.1) e1;rw [hu] at e2;rcases hWne with e3|e3
   ·rw [e3] at hlt;exact absurd hlt (by simp)
   ·exact e3 e2
  have kC:=EJ u.c.queues x.proc a r.prio hR;rw [hR] at hRl;obtain ⟨R1,R2,R3⟩:=R;obtain rfl:R3=0:=h00;have kT:=zf d u R1 R2 (by dsimp only at hRl;omega);obtain ⟨z,hz⟩:∃z,u.take R1 R2=z:=⟨_,rfl⟩;have hzp:z.c.procs=u.c.procs:=by rw [←hz];rfl
  have hze:z.ev.length=u.ev.length+R2.length:=by rw [←hz,l9]
  have hu:co x.proc r.prio (L.drop (k+1)) z=W:=by rw [←hz];exact hu
  rw [hz] at kT;rw [←hv2] at kC;dsimp only at hRl;have hz2:z.ev.length+18*(L.length-(k+1))≤500000:=by omega
  clear hz hze hue hRl hR;repeat' (first|refine af ?_ ?_|(refine aa 9 rfl ?_;first|(refine cC [] (kC) ?_)|(refine cH (qf [(0,0),(1,1),(2,1011),(4,1020)]) (kT) ?_))|(refine aa 21 rfl ?_;first|refine sx (aq rfl rfl) ?_|refine sx (aE rfl rfl) ?_)|refine ae ?_|exact ah|refine ab fun hb=>?_)
  refine ⟨(k+1,z),⟨by dsimp only;omega,hu,hz2,v,by dsimp only;rw [hzp];exact hv1,hv2⟩,by dsimp only;omega,?_⟩;dsimp only;exact bw (qf [(1011,1020)])
 ·rw [List.drop_eq_nil_of_le (by omega)] at hu;obtain rfl:u=W:=hu;repeat' (first|refine af ?_ ?_|refine aa 9 rfl (cH (qf [(0,0),(50,1),(2,1011),(4,1020)]) (kS) ?_)|refine ae ?_|exact ah|refine ab fun hb=>?_|(refine ct (qf [(4,1020)]) ?_;exact aw))
end Go.Proofs.YtcgpepnbohejfaaGreatDoor
