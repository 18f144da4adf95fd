/- Part K38 of a proof of statements of chapter 15 (no condition). -/
import Derived.Test.YthpgjkjgkhjjlaaGreatDoorK34
set_option linter.unusedVariables false
set_option linter.unusedSimpArgs false
set_option maxRecDepth 100000
set_option maxHeartbeats 64000000
namespace Go.Proofs.YthpgjkjgkhjjlaaGreatDoor
open Go.RowKit Go.Proofs.Tryz
theorem S8 {c:Cs} (h:CI c) (p:Pr):Ra p c.procs:=fun i j hi hj hij hk=>by
 by_cases e:i=j
 ·subst e;exact hk
 ·have ha:=List.pairwise_iff_getElem.1 h.asc i j (by simpa using hi) (by simpa using hj) (by omega);simp only [List.getElem_map] at ha;rcases dV c.procs[i].proc p with ⟨_,k1⟩|⟨_,k1⟩|⟨k0,_⟩
  ·omega
  ·omega
  ·rcases dV c.procs[j].proc p with ⟨k2,_⟩|⟨k2,_⟩|⟨_,k3⟩
   ·exact absurd (dt (dt k0 ha) k2) (co _)
   ·exact absurd (k2▸dt k0 ha) (co _)
   ·omega
def Cm.d (d:Nat) (k:Cm):List D:=[.sc (.int .i64 k.kind),.sc (.int .i64 k.proc.site),.sc (.int .i64 k.proc.inc),.sc (.int .i64 k.proc.num),.sc (.int .i64 k.req.expr.k),.sc (.string k.req.expr.atom.name),.sc (.int .i64 k.req.expr.atom.am.mode),.sc (.int .i64 k.req.expr.atom.am.units),.sl (pA d) k.req.expr.kids,.sc (.int .i64 k.req.prio),.sc (.int .i64 k.req.limit),.sc (.string k.name),.sc (.int .i64 k.n)]
def Cm.a (d:Nat) (k:Cm):V0:=.ag (k.d d)
theorem TY (d:Nat) (w:Wk) (k:Cm) (h:CI w.c) (hs:∀x∈w.c.procs,dU w.c.queues x=false) (he:w.ev.length<=1000) {Z:Wk×Int} (hZ:g8 w k=Z):FSpec prog 52 [go,k.a d] (HI d w) [3,4] (.i Z.2) (HO d Z.1):=by
 refine a7 func52 ?_;obtain ⟨kd,p,r,nm,n⟩:=k;unfold g8 at hZ;dsimp only at hZ;have h8:w.c.procs.length<=100000:=by have:=h.len;omega
 by_cases hA:1<=kd/\kd<=9
 case neg =>
  rw [show (decide (1<=kd) && decide (kd<=9))=false by rw [Bool.and_eq_false_iff];simp;omega] at hZ;obtain rfl:Z=(w,1):=hZ.symm;by_cases hA1:1<=kd
  ·refine ao ?_
   (refine cc (qf [(3,1),(4,2)]) ?_;exact af)
  ·refine ao ?_
   (refine cc (qf [(3,1),(4,2)]) ?_;exact af)
 obtain ⟨hA1,hA2⟩:=hA;rw [qDt hA1,qDt hA2,Bool.and_self,Bool.not_true,qCf] at hZ;by_cases h1:kd=1
 ·subst h1;have hZ:iZ w p n=Z:=hZ;have kO:=SU d w p n h8 (S8 h p) hZ;repeat' (first|refine av ?_ ?_|refine aa 9 rfl (cH (qf [(1,1),(2,2),(3,1003),(4,1004)]) kO ?_)|refine aq ?_|exact aw|refine ap fun hb=>?_|(refine cc (qf [(3,1003),(4,1004)]) ?_;exact af))
 rw [qDf h1,qCf] at hZ;by_cases h9:kd=9
 ·subst h9;have hZ:gi w n=Z:=hZ;have kT:=SD d w n (by have:=h.now;omega) (fun a1 a2 a3=>SO _ _ (h.later a1 (by omega)) hs (gj _) (by show w.ev.length+_<=_;have:=h.len;omega)) hZ;repeat' (first|refine av ?_ ?_|refine aa 9 rfl (cH (qf [(1,1),(2,2),(3,1003),(4,1004)]) kT ?_)|refine aq ?_|exact aw|refine ap fun hb=>?_|(refine cc (qf [(3,1003),(4,1004)]) ?_;exact af))
 rw [qDf h9,qCf] at hZ;by_cases hI:bM p 0 w.c.procs<0
 ·rw [qDt hI,qCt] at hZ;obtain rfl:Z=(w,10):=hZ.symm;have kI:=E0 w.c.procs d p;repeat' (first|refine av ?_ ?_|refine aa 9 rfl (cB [1] kI ?_)|refine aq ?_|exact aw|refine ap fun hb=>?_|(refine cc (qf [(3,1),(4,2)]) ?_;exact af))
 rw [qDf hI,qCf] at hZ;obtain ⟨i,hi,ei,_⟩:=c7 (p:=p) (l:=w.c.procs) (k:=0) (by omega);rw [Nat.zero_add] at ei;have kI:=qp w.c.procs d p ei;rw [ei,Int.toNat_natCast] at hZ;clear hI ei;obtain ⟨x,hx⟩:∃x,w.c.procs[i]? = some x:=⟨_,qGg hi⟩;have hpc:=eI hx;by_cases h2:kd=2
 ·subst h2;have hZ:bX w i r=Z:=hZ;have kT:=Mx d w i r (TS h hi (by omega)) hZ;exact U2
 rw [qDf h2,qCf] at hZ;by_cases h3:kd=3
 ·subst h3;rw [hpc] at hZ;cases hw:x.waiting with
  | false =>
   exact UY
  | true =>
   rw [hw] at hZ;have hw2:(w.pc i).waiting=true:=by rw [hpc];exact hw
   obtain ⟨k1,k2,k3,k4,_⟩:=b9 h hi hw2;have hi2:i<(ai w i).c.procs.length:=by rw [k3.len];exact hi
   obtain ⟨n1,n2,_⟩:=eL k1 hi2 (by rw [bh hi2];simp [k4]);have h9:=dM w i;have h88:=cD (w.pc i).req.expr;have kW:=sH d w i hi ((lY h hi hw2).ok (by omega)) (by rw [dL];exact hi);have kX:=o9 d (ai w i) i hi2;have kS:=oh d _ _ (Bk n1 (by show (ai w i).ev.length<=_;omega));have hZ:(aK (aZ (ai w i) i).c.procs.length (aZ (ai w i) i),(0:Int))=Z:=hZ;obtain ⟨A,hA⟩:=qGe (ai w i);rw [hA] at kW kX kS hZ;obtain ⟨B,hB⟩:=qGe (aZ A i);rw [hB] at kX kS hZ;obtain ⟨F,hF⟩:=qGe (aK B.c.procs.length B);rw [hF] at kS hZ;obtain rfl:Z=(F,0):=hZ.symm;repeat' (first|refine av ?_ ?_|(refine aa 9 rfl ?_;first|(refine cB [1] kI ?_)|(refine cH (qf [(1,1),(2,2),(3,1003),(4,1004)]) kW ?_)|(refine cH (qf [(1,1003),(2,1004),(3,1005),(4,1006)]) kX ?_)|(refine cH (qf [(1,1005),(2,1006),(3,1007),(4,1008)]) kS ?_))|refine aq ?_|exact aw|(refine ap fun hb=>?_;first|(cases hw.symm.trans hb;done)|skip)|(refine cc (qf [(3,1007),(4,1008)]) ?_;exact af))
 rw [qDf h3,qCf] at hZ;by_cases h4:kd=4
 ·subst h4;have hZ:dG w i nm=Z:=hZ;have kT:=Mv d w i nm (SM h hi (by omega)) hZ;exact U2
 rw [qDf h4,qCf] at hZ;by_cases h5:kd=5
 ·subst h5;rw [hpc] at hZ;obtain ⟨G,hG⟩:=qGe (da x.led n);have kL:=Sx x.led n hG;have kX:=o9 d (w.setP i { x with led:=G.1 }) i (by rw [iP];exact hi);obtain ⟨N,hN⟩:∃N,aZ (w.setP i { x with led:=G.1 }) i=N:=⟨_,rfl⟩;have hZ:(bif x.waiting then (w,(14:Int)) else bif !decide (G.2=0) then (w,G.2) else (N,0))=Z:=by rw [<-hZ,<-hN,<-hG];rfl
  rw [hN] at kX;cases hw:x.waiting with
  | true =>
   exact UY
  | false =>
   rw [hw,qCf] at hZ;by_cases h0:G.2=0
   case neg =>
    obtain rfl:Z=(w,G.2):=by rw [<-hZ,qDf h0];rfl
    repeat' (first|refine av ?_ ?_|(refine aa 9 rfl ?_;first|(refine cB [1] kI ?_)|(refine cC [] kL ?_))|refine aq ?_|exact aw|(refine ap fun hb=>?_;first|(cases hw.symm.trans hb;done)|skip)|(refine cc (qf [(3,1),(4,2)]) ?_;exact af))
   obtain rfl:Z=(N,0):=by rw [<-hZ,qDt h0];rfl
   repeat' (first|refine av ?_ ?_|(refine aa 9 rfl ?_;first|(refine cB [1] kI ?_)|(refine cC [] kL ?_)|(refine cH (qf [(1,1),(2,2),(3,1003),(4,1004)]) kX ?_))|refine aq ?_|(refine aa 4 rfl ?_;refine a8 (ak (z:={ x with led:=G.1 }) rfl rfl rfl rfl hx rfl rfl rfl rfl (qNl rfl) rfl rfl) rfl rfl rfl ?_)|exact aw|(refine ap fun hb=>?_;first|(cases hw.symm.trans hb;done)|skip)|(refine cc (qf [(3,1003),(4,1004)]) ?_;exact af))
 rw [qDf h5,qCf] at hZ;by_cases h6:kd=6
 ·subst h6;have hZ:cu w i n=Z:=hZ;have kT:=J3 d w i n (SN h hi (by omega)) hZ;exact U2
 rw [qDf h6,qCf] at hZ;have kG:=SJ d w i (TT h hi (by omega));by_cases h8b:kd=8
 ·subst h8b;rw [hpc] at hZ;cases hw:x.waiting with
  | true =>
   exact UY
  | false =>
   rw [hw] at hZ;obtain ⟨F,hF⟩:=qGe (gT w i);rw [hF] at kG hZ;obtain rfl:Z=(F,0):=hZ.symm;repeat' (first|refine av ?_ ?_|(refine aa 9 rfl ?_;first|(refine cB [1] kI ?_)|(refine cH (qf [(1,1),(2,2),(3,1003),(4,1004)]) kG ?_))|refine aq ?_|exact aw|(refine ap fun hb=>?_;first|(cases hw.symm.trans hb;done)|skip)|(refine cc (qf [(3,1003),(4,1004)]) ?_;exact af))
 ·rw [qDf h8b] at hZ;obtain rfl:kd=7:=by omega
  obtain ⟨F,hF⟩:=qGe (gT w i);rw [hF] at kG hZ;obtain rfl:Z=(F,0):=hZ.symm;repeat' (first|refine av ?_ ?_|(refine aa 9 rfl ?_;first|(refine cB [1] kI ?_)|(refine cH (qf [(1,1),(2,2),(3,1003),(4,1004)]) kG ?_))|refine aq ?_|exact aw|refine ap fun hb=>?_|(refine cc (qf [(3,1003),(4,1004)]) ?_;exact af))
end Go.Proofs.YthpgjkjgkhjjlaaGreatDoor
