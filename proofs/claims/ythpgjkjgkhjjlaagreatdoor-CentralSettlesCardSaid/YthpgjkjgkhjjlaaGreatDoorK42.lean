/- Part K42 of a proof of statements of chapter 15 (no condition). -/
import Derived.Test.YthpgjkjgkhjjlaaGreatDoorK39
import Derived.Test.YthpgjkjgkhjjlaaGreatDoorK41
import Derived.Test.YthpgjkjgkhjjlaaGreatDoorK40
set_option linter.unusedVariables false
set_option linter.unusedSimpArgs false
set_option maxRecDepth 100000
set_option maxHeartbeats 64000000
namespace Go.Proofs.YthpgjkjgkhjjlaaGreatDoor
open Go.RowKit Go.Proofs.Tryz
theorem Rk (d:Nat) (w:Wk) (k:Cm) (h:CI w.c) (hs:∀x∈w.c.procs,dU w.c.queues x=false) (he:w.ev.length<=1000) {Z:Wk×Int} (hZ:g8 w k=Z):FSpec prog 49 [go,k.a d] (HP d w) [3,4] (.i Z.2) (HR d Z.1):=by
 refine a7 func49 ?_;obtain ⟨kd,p,r,nm,n⟩:=k;unfold g8 at hZ;dsimp only at hZ;have h8:=h.len;by_cases hA:1<=kd/\kd<=9
 case neg =>
  rw [show (decide (1<=kd) && decide (kd<=9))=false by rw [Bool.and_eq_false_iff];simp;omega] at hZ;obtain rfl:(w,1)=Z:=hZ;refine ao ?_
  (refine cc (qf [(3,1),(4,2)]) ?_;exact af)
 obtain ⟨hA1,hA2⟩:=hA;rw [qDt hA1,qDt hA2,Bool.and_self,Bool.not_true,qCf] at hZ;by_cases h1:kd=1
 ·subst h1;have hZ:iZ w p n=Z:=hZ;have kO:=Ri d w p n h8 (S8 h p) hZ;repeat' (first|refine av ?_ ?_|refine aa 9 rfl (cH (qf [(0,0),(1,1),(2,2),(3,1003),(4,1004)]) kO ?_)|refine aq ?_|exact aw|refine ap fun hb=>?_|(refine cc (qf [(3,1003),(4,1004)]) ?_;exact af))
 rw [qDf h1,qCf] at hZ;by_cases h9:kd=9
 ·subst h9;have hZ:gi w n=Z:=hZ;have kT:=Rj d w n h hs he hZ;repeat' (first|refine av ?_ ?_|refine aa 9 rfl (cH (qf [(0,0),(1,1),(2,2),(4,1004)]) kT ?_)|refine aq ?_|exact aw|refine ap fun hb=>?_|(refine cc (qf [(3,1),(4,1004)]) ?_;exact af))
 rw [qDf h9,qCf] at hZ;by_cases hI:bM p 0 w.c.procs<0
 ·rw [qDt hI,qCt] at hZ;obtain rfl:(w,10)=Z:=hZ;have kI:=C4 d w.c.procs p (by omega) rfl;repeat' (first|refine av ?_ ?_|refine aa 9 rfl (cH (qf [(1,1)]) kI ?_)|(refine aa 21 rfl ?_;first|refine sx (aI rfl rfl) ?_|refine sx (ba rfl rfl) ?_)|refine aq ?_|exact aw|(refine ap fun hb=>?_;first|(exfalso;omega)|skip)|(refine cc (qf [(3,1),(4,2)]) ?_;exact af))
 rw [qDf hI,qCf] at hZ;obtain ⟨i,hi,ei,_⟩:=c7 (p:=p) (l:=w.c.procs) (k:=0) (by omega);rw [Nat.zero_add] at ei;have kI:=C4 d w.c.procs p (by omega) ei;rw [ei,Int.toNat_natCast] at hZ;clear hI ei;obtain ⟨x,hx⟩:∃x,w.c.procs[i]? = some x:=⟨_,qGg hi⟩;have hpc:=eI hx;by_cases h2:kd=2
 ·subst h2;have hZ:bX w i r=Z:=hZ;have kT:=Ko d w i r hx h (by omega) hZ;exact UH
 rw [qDf h2,qCf] at hZ;by_cases h3:kd=3
 ·subst h3;rw [hpc] at hZ;have hZ:(bif !x.waiting then (w,(14:Int)) else (bw (aZ (ai w i) i),0))=Z:=hZ;have kT:=MZ d w i hx h (by omega) hZ;exact UH
 rw [qDf h3,qCf] at hZ;by_cases h4:kd=4
 ·subst h4;have hZ:dG w i nm=Z:=hZ;have kT:=Kk d w i nm hx h (by omega) hZ;exact UH
 rw [qDf h4,qCf] at hZ;by_cases h5:kd=5
 ·subst h5;rw [hpc] at hZ;have hZ:(bif x.waiting then (w,(14:Int)) else bif !decide ((da x.led n).2=0) then (w,(da x.led n).2) else (aZ (w.setP i { x with led:=(da x.led n).1 }) i,0))=Z:=hZ;have kT:=Rf d w i n hx hZ;exact UH
 rw [qDf h5,qCf] at hZ;by_cases h6:kd=6
 ·subst h6;have hZ:cu w i n=Z:=hZ;have kT:=GU d w i n hx h (by omega) hZ;exact UH
 rw [qDf h6,qCf] at hZ;obtain ⟨F,hF⟩:=qGe (gT w i);have kG:=Rg d w i hx h (by omega) hF;rw [hF,hpc] at hZ;by_cases h8b:kd=8
 ·subst h8b;cases hw:x.waiting with
  | true =>
   rw [hw] at hZ;obtain rfl:(w,14)=Z:=hZ;repeat' (first|refine av ?_ ?_|refine aa 9 rfl (cH (qf [(1,1)]) kI ?_)|(refine aa 21 rfl ?_;first|refine sx (aI rfl rfl) ?_|refine sx (ba rfl rfl) ?_)|refine aq ?_|exact aw|(refine ap fun hb=>?_;first|(cases hw.symm.trans hb;done)|(exfalso;omega)|skip)|(refine cc (qf [(3,1),(4,2)]) ?_;exact af))
  | false =>
   rw [hw] at hZ;obtain rfl:(F,0)=Z:=hZ;repeat' (first|refine av ?_ ?_|(refine aa 9 rfl ?_;first|(refine cH (qf [(1,1)]) kI ?_)|(refine cH (qf [(0,0),(1,1),(2,2),(3,1003),(4,1004)]) kG ?_))|(refine aa 21 rfl ?_;first|refine sx (aI rfl rfl) ?_|refine sx (ba rfl rfl) ?_)|refine aq ?_|exact aw|(refine ap fun hb=>?_;first|(cases hw.symm.trans hb;done)|(exfalso;omega)|skip)|(refine cc (qf [(3,1003),(4,1004)]) ?_;exact af))
 ·rw [qDf h8b] at hZ;obtain rfl:kd=7:=by omega
  obtain rfl:(F,0)=Z:=hZ;repeat' (first|refine av ?_ ?_|(refine aa 9 rfl ?_;first|(refine cH (qf [(1,1)]) kI ?_)|(refine cH (qf [(0,0),(1,1),(2,2),(3,1003),(4,1004)]) kG ?_))|(refine aa 21 rfl ?_;first|refine sx (aI rfl rfl) ?_|refine sx (ba rfl rfl) ?_)|refine aq ?_|exact aw|(refine ap fun hb=>?_;first|(exfalso;omega)|skip)|(refine cc (qf [(3,1003),(4,1004)]) ?_;exact af))
theorem To {c:Cs} (h:CI c):Up c:=by
 have h8:=(bi h.tv).1;have hl:=h.len;refine ⟨by omega,by omega,fun q hq=>?_,fun x hx=>?_⟩
 ·obtain ⟨q1,q2,q3⟩:=df (cP h.tv hq);exact ⟨by omega,by omega,by omega⟩
 ·have hinv:=h.inv x hx;have hl:=eZ (eK.2 hinv.stat.led);refine ⟨by omega,by omega,?_⟩;cases hw:x.waiting with
  | false=>rw [(hinv.run hw).1];decide
  | true =>
   have hq:=(hinv.wat hw).1.rq;have hv:kv x.req.expr=true:=by unfold m6 at hq;simp only [qBa] at hq;exact hq.1.1.1.1
   simp [kv,Ds] at hv;omega
theorem FJ (d:Nat) (c:Cs) (k:Cm) {R:Cs×List Ev×Int} (hR:cy c k=R):FSpec prog 15 [c.a d,k.a d] [] [] (Uq d R) []:=by
 refine a7 func15 ?_;unfold cy at hR;obtain ⟨v,hv⟩:=qGe (cG c);have kV:=C5 d c hv;rw [hv] at hR;cases v with
 | false =>
  obtain rfl:(LA,[],2)=R:=hR;refine ao ?_
  (refine dP (qf []) ?_;exact af)
 | true =>
  rw [Bool.not_true,qCf] at hR;obtain ⟨hci,hun⟩:=aV.1 hv;obtain ⟨Z,hZ⟩:=qGe (g8 ⟨c,[]⟩ k);have kD:=Rk d ⟨c,[]⟩ k hci (fun x hx=>iv (hun x hx)) (by simp) hZ;have kC:=Pd d c (To hci);rw [hZ] at hR;repeat' (first|refine av ?_ ?_|(refine aa 9 rfl ?_;first|(refine cB [] kV ?_)|(refine cH (qf [(1,1001)]) kC ?_))|((fail_if_success (first|refine m8 4 ?_|refine m9 4 ?_));refine aq ?_)|exact aw|refine ap fun hb=>?_)
  refine lU 16 3 1003 68 fX rfl rfl rfl rfl ?_;by_cases h0:Z.2=0
  ·rw [qDt h0] at hR;obtain rfl:R=(Z.1.c,Z.1.ev,0):=hR.symm;repeat' (first|refine av ?_ ?_|refine aa 9 rfl (cH (qf [(0,16),(1,1001),(2,1003),(3,1004),(4,1005)]) kD ?_)|(refine aa 21 rfl ?_;first|refine sx (aI rfl rfl) ?_|refine sx (ba rfl rfl) ?_)|refine aq ?_|exact aw|(refine ap fun hb=>?_;first|(exact absurd h0 hb)|skip)|(refine dP (qf []) ?_;exact af))
  ·rw [qDf h0] at hR;obtain rfl:R=(LA,[],Z.2):=hR.symm;repeat' (first|refine av ?_ ?_|refine aa 9 rfl (cH (qf [(0,16),(1,1001),(2,1003),(3,1004),(4,1005)]) kD ?_)|(refine aa 21 rfl ?_;first|refine sx (aI rfl rfl) ?_|refine sx (ba rfl rfl) ?_)|refine aq ?_|exact aw|(refine ap fun hb=>?_;first|(exact absurd hb h0)|skip)|(refine dP (qf []) ?_;exact af))
theorem P6 (d:Nat) (c:Cs) (p:Pr) {i:Nat} {x:Pc} (hi:bM p 0 c.procs=i) (hx:c.procs[i]? = some x) (h1:x.led.entries.length<=100000) (h2:x.led.saves.length<=100000) (h3:x.req.expr.cnt<=1000):FSpec prog 30 [c.a d,p.a] [] [] (.tup [x.a d,.one (.sc (.bool true))]) []:=by
 refine a7 func30 ?_;have hlt:=(List.getElem?_eq_some_iff.1 hx).1;have kI:=xB d c.procs p hi;have kC:=IT d x h1 h2 h3;refine ao ?_
 (refine fE (qf []) ?_;exact af)
theorem BD (d:Nat) (c:Cs) (p:Pr) {i:Nat} {x:Pc} (hi:bM p 0 c.procs=i) (hx:c.procs[i]? = some x) (hw:x.waiting=true) (hv:cG c=true) {B:List Bool} (hB:bk c.queues x.proc x.req.expr=B):FSpec prog 32 [c.a d,p.a] [] [] (.c (.sl cJ B)) []:=by
 refine a7 func32 ?_;have hlt:=(List.getElem?_eq_some_iff.1 hx).1;have kI:=xB d c.procs p hi;have kV:=C5 d c hv;have kG:=qr d c.queues x hB;exact UG
def UE (n:ByteArray) (m:Int):V0:=.ag [.sc (.int .i64 0),.sc (.string n),.sc (.int .i64 m),.sc (.int .i64 0),.sc (.slice none 0 0)]
theorem Pm (n:ByteArray) (m:Int):FSpec prog 42 [.one (.sc (.string n)),.one (.sc (.int .i64 m))] [] [] (.v (UE n m)) []:=by
 refine a7 func42 ?_;exact UG
theorem jF:FSpec prog 11 [] [] [] (.b true) []:=by
 refine a7 func11 ?_;have kA:=Pm nA 5;have kP0:=j9 0;have kP1:=j9 1;have kN:=(P3 0 [T6] (v:=true) (by decide +kernel) (Q:=[gI T6]) rfl).lit (e:=63) (n:=1) rfl rfl (by decide);have h1:=xC UA;have h2:=xC UB;have h3:=xC UC;have h4:=xC Ut;have k1:=FJ 0 Ni (Nz (ce 0)) h1;have k2:=FJ 0 G8 (Nz (ce 1)) h2;have k3:=FJ 0 FA (Nj (ce 0)) h3;have k4:=FJ 0 G9 (Nj (ce 1)) h4;obtain ⟨x,hx,hxw,hxg⟩:∃x,sU.procs[1]? = some x/\x.waiting=true/\(bk sU.queues x.proc x.req.expr).length=1:=by
  have h:=UD;cases hx:sU.procs[1]? with
  | none=>rw [hx] at h;cases h
  | some x =>
   rw [hx] at h;simp only [Option.map_some,Option.some.injEq,Prod.mk.injEq] at h;exact ⟨x,rfl,h.1,h.2⟩
 have hcl:=(To (aV.1 T8).1).2.2.2 x (List.mem_of_getElem? hx);have kF:=P6 0 sU (ce 1) Uu hx hcl.1 hcl.2.1 hcl.2.2;obtain ⟨B,hB⟩:=qGe (bk sU.queues x.proc x.req.expr);have kG:=BD 0 sU (ce 1) Uu hx hxw T8 hB;have kV:=C5 0 sU T8;rw [hB] at hxg;obtain ⟨E,hE⟩:=qGe ((cy FA (Nj (ce 0))).2.1);have he3:=T7;rw [hE] at k3 he3;have hEl:E.length=2:=by have:=congrArg List.length he3;simpa using this
 obtain ⟨z,hz⟩:∃z,E[(1:Int).toNat]? = some z:=⟨_,qGg (by show 1<E.length;omega)⟩;have hzk:z.kind=2:=by
  have h:=congrArg (fun l:List Int=>l[1]?) he3;simp only [List.getElem?_map] at h;have hz':E[1]? = some z:=hz;rw [hz'] at h;simpa using h
 rw [show (cy Ni (Nz (ce 0))).1=G8 from rfl] at k1;rw [show (cy G8 (Nz (ce 1))).1=FA from rfl] at k2;rw [show (cy FA (Nj (ce 0))).1=G9 from rfl] at k3;rw [show (cy G9 (Nj (ce 1))).1=sU from rfl] at k4;obtain ⟨E1,hE1⟩:∃E,(cy Ni (Nz (ce 0))).2.1=E:=⟨_,rfl⟩;obtain ⟨E2,hE2⟩:∃E,(cy G8 (Nz (ce 1))).2.1=E:=⟨_,rfl⟩;obtain ⟨E4,hE4⟩:∃E,(cy G9 (Nj (ce 1))).2.1=E:=⟨_,rfl⟩;rw [hE1] at k1;rw [hE2] at k2;rw [hE4] at k4;clear h1 h2 h3 h4 hE hE1 hE2 hE4 he3 hcl hB hx;generalize sU=S4 at *
 generalize G9=S3 at *
 generalize FA=S2 at *
 generalize G8=S1 at *
 generalize ce 0=p0 at *
 generalize ce 1=p1 at *
 repeat' (first|refine av ?_ ?_|(refine aa 9 rfl ?_;first|(refine cH (qf [(0,17)]) kN ?_)|(refine cC [] kP0 ?_)|(refine cC [] kP1 ?_)|(refine cC [] kA ?_)|(refine cC [] k1 ?_)|(refine cC [] k2 ?_)|(refine cC [] k3 ?_)|(refine cC [] k4 ?_)|(refine cC [] kF ?_)|(refine cC [] kG ?_)|(refine cB [] kV ?_))|refine aq ?_|exact aw|(refine ap fun hb=>?_;first|(cases hxw.symm.trans hb;done)|(exfalso;omega)|skip)|exact bg|fail)
end Go.Proofs.YthpgjkjgkhjjlaaGreatDoor
