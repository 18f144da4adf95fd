/- Part K36 of a proof of statements of chapter 15 (no condition). -/
import Derived.Test.YthpgjkjgkhjjlaaGreatDoorK33
import Derived.Test.YthpgjkjgkhjjlaaGreatDoorK30
set_option linter.unusedVariables false
set_option linter.unusedSimpArgs false
set_option maxRecDepth 100000
set_option maxHeartbeats 64000000
namespace Go.Proofs.YthpgjkjgkhjjlaaGreatDoor
open Go.RowKit Go.Proofs.Tryz
def HU (d:Nat) (w:Wk):List (Nat×Option Box):=[(0,some (.box 109 (Ix w 2))),(1,some (.arr 82 (fR d) w.c.procs)),(2,some (.arr 68 fX w.ev))]
theorem P2 (d:Nat) (w:Wk) (h8:w.c.procs.length<=100000) (hx:RQ w.c.procs) {e:Int} (he:cA w=e):FSpec prog 131 [go] (HP d w) [] (.i e) (HU d w):=by
 refine a7 func131 ?_;obtain ⟨E,hE⟩:=qGe (gh w.c.now 0 w.c.procs (-1,0));obtain rfl:E.1=e:=by rw [<-he,<-hE];rfl
 clear he;repeat' (first|refine av ?_ ?_|(refine aa 21 rfl ?_;refine sx (ba rfl rfl) ?_)|refine aq ?_|exact aw|refine ap fun hb=>?_)
 refine ab (fun y:Nat×Int×Int=>y.1<=w.c.procs.length/\gh w.c.now y.1 (w.c.procs.drop y.1) y.2=E/\(y.2.1<0\/∃(m:Nat) (z:Pc),y.2.1=(m:Int)/\w.c.procs[m]? = some z/\y.2.2=z.since+z.req.limit)) (fun y=>bP [0,1,2] [(0,.v go),(3,.i y.2.1),(10,.c (.own 1)),(11,.i w.c.procs.length),(12,.i y.1)] [(0,.box 109 (Ix w 2)),(1,.arr 82 (fR d) w.c.procs),(2,.arr 68 fX w.ev)]) (fun y=>w.c.procs.length-y.1) (0,-1,0) ⟨Nat.zero_le _,hE,.inl (by decide)⟩ aT ?_;rintro ⟨i,b⟩ ⟨hi,hs,hB⟩;dsimp only at *
 by_cases hlt:i<w.c.procs.length
 case neg =>
  obtain rfl:b=E:=by rw [<-hs,qDn (by omega)];rfl
  exact UG
 obtain ⟨x,hxe⟩:=qGe (w.c.procs[i]);have hgx:w.c.procs[i]? = some x:=by rw [qGg hlt,hxe]
 obtain ⟨⟨k1,k2⟩,k3,k4⟩:=hx x (hxe▸List.getElem_mem hlt);rw [qDc hlt,hxe,yS] at hs;obtain ⟨b1,b2⟩:=b;dsimp only at *
 by_cases hc0:x.waiting=true/\¬x.req.limit=0/\x.since+x.req.limit<=w.c.now
 case neg =>
  rw [show (x.waiting && !decide (x.req.limit=0) && decide (x.since+x.req.limit<=w.c.now))=false by
   cases hh:(x.waiting && !decide (x.req.limit=0) && decide (x.since+x.req.limit<=w.c.now)) with
   | false=>rfl
   | true =>
    simp only [qBa,Bool.not_eq_true',decide_eq_true_eq,decide_eq_false_iff_not] at hh;exact absurd ⟨hh.1.1,hh.1.2,hh.2⟩ hc0,Bool.false_and,qCf] at hs
  have hc1:x.waiting=true->¬x.req.limit=0->x.since+x.req.limit<=w.c.now->False:=fun a b c=>hc0 ⟨a,b,c⟩;clear hc0;repeat' (first|refine av ?_ ?_|(refine aa 21 rfl ?_;refine sx (ba rfl rfl) ?_)|refine aq ?_|exact aw|(refine ap fun hb=>?_;first|(exact (hc1 (by assumption) (by assumption) (by omega)).elim)|skip))
  all_goals first|(exfalso;exact hc1 (by assumption) (by assumption) (by omega))|(refine ⟨(i+1,b1,b2),⟨by dsimp only;omega,hs,hB⟩,by dsimp only;omega,?_⟩;exact aT)
 obtain ⟨c1,c2,c3⟩:=hc0;rw [c1,qDf c2,qDt c3,show (true && !false && true)=true from rfl,Bool.true_and] at hs;by_cases hb1:b1<0
 ·rw [qDt hb1,Bool.true_or,qCt] at hs;repeat' (first|refine av ?_ ?_|(refine aa 21 rfl ?_;refine sx (ba rfl rfl) ?_)|refine aq ?_|exact aw|(refine ap fun hb=>?_;first|(exfalso;first|omega|(simp_all;done))|skip))
  exact V7
 ·obtain ⟨m,z,rfl,hgz,rfl⟩:=hB.resolve_left hb1;clear hB;have hm:=(List.getElem?_eq_some_iff.1 hgz).1;obtain ⟨⟨j1,j2⟩,j3,j4⟩:=hx z (List.mem_of_getElem? hgz);rw [qDf hb1,Bool.false_or] at hs;by_cases hd:x.since+x.req.limit<z.since+z.req.limit
  ·rw [qDt hd,qCt] at hs;repeat' (first|refine av ?_ ?_|(refine aa 21 rfl ?_;refine sx (ba rfl rfl) ?_)|refine aq ?_|exact aw|(refine ap fun hb=>?_;first|(exfalso;first|omega|(simp_all;done))|skip))
   exact V7
  ·rw [qDf hd,qCf] at hs;repeat' (first|refine av ?_ ?_|(refine aa 21 rfl ?_;refine sx (ba rfl rfl) ?_)|refine aq ?_|exact aw|(refine ap fun hb=>?_;first|(exfalso;first|omega|(simp_all;done))|skip))
   refine ⟨(i+1,(m:Int),z.since+z.req.limit),⟨by dsimp only;omega,hs,.inr ⟨m,z,rfl,hgz,rfl⟩⟩,by dsimp only;omega,?_⟩;exact aT
theorem BC (c:Cs) (o:Option Pr) (x:Pc) (l:List Pc):Cc c o (x :: l)=(oB c x && Nu o x.proc && Cc c (some x.proc) l):=rfl
theorem Pi (d:Nat) (c:Cs) {b:Bool} (hB:cG c=b):FSpec prog 50 [c.a d] [] [] (.b b) []:=by
 refine a7 func50 ?_;unfold cG at hB;have kV:=eB c.queues;obtain ⟨v,hv⟩:=qGe (di c.queues);rw [hv] at kV;by_cases h1:0<=c.now/\c.now<=1073741824
 case neg =>
  obtain rfl:b=false:=by rw [<-hB];by_cases h:0<=c.now <;> simp [h] <;> omega
  by_cases h2:c.now<0
  ·exact UG
  ·exact UG
 have hn:=h1;obtain ⟨h1,h2⟩:=h1;rw [hv,qDt h1,qDt h2] at hB;cases v with
 | false =>
  obtain rfl:b=false:=by rw [<-hB];rfl
  exact UG
 | true =>
  have hp8:=bi hv;by_cases h8:c.procs.length<=8
  case neg =>
   obtain rfl:b=false:=by rw [<-hB,qDf h8];rfl
   exact UG
  rw [qDt h8] at hB;simp only [Bool.true_and] at hB;obtain ⟨L,hL⟩:=qGe (aO c.queues);have kP:=pY c.queues (by omega) (fun q hq=>df (cP hv hq));have hLl:L.length<=8:=by rw [<-hL];exact hp8.2.2
  rw [hL] at kP hB;obtain ⟨G,hG⟩:∃G:Pr->Bool,(fun p=>decide (0<=bM p 0 c.procs))=G:=⟨_,rfl⟩;have hG':∀p,decide (0<=bM p 0 c.procs)=G p:=fun p=>congrFun hG p;rw [hG] at hB;refine ao ?_;refine ab (fun i=>i<=L.length/\(L.all G=(L.drop i).all G)) (fun i=>bP [1] [(1,.c (.ptr 1 0)),(3,.c (.sl gK L)),(4,.i i)] [(1,.box 32 (c.d d))]) (fun i=>L.length-i) 0 ⟨Nat.zero_le _,rfl⟩ aT ?_;rintro i ⟨hi,hs⟩;by_cases hlt:i<L.length
  ·obtain ⟨p,hp⟩:∃p,L[i]? = some p:=⟨_,qGg hlt⟩;have ep:=qGs hp;rw [qDc hlt,ep,List.all_cons] at hs;obtain ⟨ix,hix⟩:=qGe (bM p 0 c.procs);have kI:=qp c.procs d p hix;have hgp:=hG' p;rw [hix] at hgp;by_cases h0:0<=ix
   ·rw [qDt h0] at hgp;refine ao ?_;refine ⟨i+1,⟨by omega,?_⟩,by omega,?_⟩
    ·rw [hs,<-hgp,Bool.true_and]
    ·exact aT
   ·rw [qDf h0] at hgp;obtain rfl:b=false:=by rw [<-hB,hs,<-hgp];rfl
    exact UG
  rw [qDn (by omega),List.all_nil] at hs;rw [hs,Bool.true_and] at hB;clear hs hG hG' kP kV;refine ao ?_;refine ab (fun y:Nat×Option Pr=>y.1<=c.procs.length/\(y.1=0/\y.2=none\/0<y.1/\∃z,c.procs[((y.1:Int)-1).toNat]? = some z/\y.2=some z.proc)/\Cc c y.2 (c.procs.drop y.1)=b) (fun y=>bP [1] [(1,.c (.ptr 1 0)),(5,.i y.1)] [(1,.box 32 (c.d d))]) (fun y=>c.procs.length-y.1) (0,none) ⟨Nat.zero_le _,.inl ⟨rfl,rfl⟩,hB⟩ aT ?_;clear hB;rintro ⟨i,o⟩ ⟨hi,ho,hs⟩;dsimp only at *
  by_cases hlt:i<c.procs.length
  ·obtain ⟨x,hx⟩:∃x,c.procs[i]? = some x:=⟨_,qGg hlt⟩;have ex:=qGs hx;rw [qDc hlt,ex,BC] at hs;obtain ⟨pb,hpb⟩:=qGe (oB c x);have kP:=M4 d c x hn hv hpb;rw [hpb] at hs;have hx2:c.procs[((i+1:Nat):Int).toNat-1]? = some x:=by rw [<-hx];congr 1
   cases pb with
   | false =>
    obtain rfl:b=false:=hs.symm;exact UG
   | true =>
    rw [Bool.true_and] at hs;rcases ho with ⟨h0,rfl⟩|⟨h0,z,hz,rfl⟩
    ·rw [show Nu none x.proc=true from rfl,Bool.true_and] at hs;refine ao ?_;refine ⟨(i+1,some x.proc),⟨by dsimp only;omega,.inr ⟨by dsimp only;omega,x,?_,rfl⟩,hs⟩,by dsimp only;omega,?_⟩
     ·dsimp only;rw [<-hx];congr 1
      omega
     ·exact aT
    ·have kC:=kY z.proc x.proc;obtain ⟨e,he⟩:=qGe (cl z.proc x.proc);rw [show Nu (some z.proc) x.proc=decide (cl z.proc x.proc<0) from rfl,he] at hs;rw [he] at kC;by_cases hneg:e<0
     ·rw [qDt hneg,Bool.true_and] at hs;refine ao ?_;refine ⟨(i+1,some x.proc),⟨by dsimp only;omega,.inr ⟨by dsimp only;omega,x,?_,rfl⟩,hs⟩,by dsimp only;omega,?_⟩
      ·dsimp only;rw [<-hx];congr 1
       omega
      ·exact aT
     ·rw [qDf hneg] at hs;obtain rfl:b=false:=hs.symm;exact UG
  ·rw [qDn (by omega)] at hs;obtain rfl:b=true:=hs.symm;exact UG
theorem Ro (d:Nat) (c:Cs) (h1:c.queues.length<=100000) (h2:c.procs.length<=100000):FSpec prog 51 [c.a d] [] [1,2] (.v (.ag [.sc (.int .i64 c.now),.own 1,.own 2])) [(1,some (.arr 66 eh c.queues)),(2,some (.arr 82 (fR d) c.procs))]:=by
 refine a7 func51 ?_;refine ao ?_
 (refine cc (qf [(1,6),(2,11)]) ?_;exact af)
end Go.Proofs.YthpgjkjgkhjjlaaGreatDoor
