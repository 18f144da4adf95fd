/- Part K40 of a proof of statements of chapter 15 (no condition). -/
import Derived.Test.YthpgjkjgkhjjlaaGreatDoorK35
import Derived.Test.YthpgjkjgkhjjlaaGreatDoorK37
import Derived.Test.YthpgjkjgkhjjlaaGreatDoorK36
set_option linter.unusedVariables false
set_option linter.unusedSimpArgs false
set_option maxRecDepth 100000
set_option maxHeartbeats 64000000
namespace Go.Proofs.YthpgjkjgkhjjlaaGreatDoor
open Go.RowKit Go.Proofs.Tryz
theorem T2 (a b:List Tm):FSpec prog 197 [.one (.sl c6 a),.one (.sl c6 b)] [] [] (.b (decide (a=b))) []:=by
 refine a7 func197 ?_;refine aY (fun c ρ a w hr=>bV (t:=0) hr rfl) (fun hl0=>?_);by_cases hl:a.length=b.length
 case neg =>
  have hne:a≠b:=fun e=>hl (by rw [e]);rw [qDf hne];refine ao ?_;exact bg
 refine ao ?_;refine ab (fun i=>i<=a.length/\((a=b)↔a.drop i=b.drop i)) (fun i=>bP [] [(0,.c (.sl c6 a)),(1,.c (.sl c6 b)),(12,.i a.length),(13,.i i)] []) (fun i=>a.length-i) 0 ⟨Nat.zero_le _,Iff.rfl⟩ aT ?_;rintro i ⟨hi,hs⟩;by_cases hlt:i<a.length
 ·have hlt2:i<b.length:=by omega
  rw [qDc hlt,qDc hlt2,List.cons.injEq] at hs;obtain ⟨x,hx⟩:∃x,a[i]? = some x:=⟨_,qGg hlt⟩;obtain ⟨y,hy⟩:∃y,b[i]? = some y:=⟨_,qGg hlt2⟩;have ex:=qGs hx;have ey:=qGs hy;rw [ex,ey] at hs;clear ex ey;by_cases he:x=y
  ·subst he;refine ao ?_;refine ⟨i+1,⟨by omega,?_⟩,by omega,?_⟩
   ·rw [hs];simp
   ·exact aT
  ·rw [qDf (fun e=>he (hs.1 e).1)];exact UG
 ·rw [qDn (by omega),qDn (by omega)] at hs;rw [qDt (hs.2 rfl)];exact UG
theorem M5 (d:Nat) (c:Cs) (x:Pc) (hV:di c.queues=true) (hg:rT x.led=true) {b:Bool} (hB:Ph c x=b):FSpec prog 125 [c.a d,x.a d] [] [] (.b b) []:=by
 refine a7 func125 ?_;have hq8:=(bi hV).1;have kZ:=Rl d x.req rfl;have kC:=Mf c.queues x.proc (by omega) fun q hq=>df (cP hV hq);have kO:=QY c.queues x.proc (by omega);have kH:=M3 x.led (eZ hg).1 rfl;have kE:=T2 (db c.queues x.proc) (dx x.led);have he:decide (dx x.led=db c.queues x.proc)=decide (db c.queues x.proc=dx x.led):=decide_eq_decide.2 eq_comm;repeat' (first|refine av ?_ ?_|refine gV ?_|refine aq ?_|exact aw|refine ap fun hb=>?_)
 all_goals (refine eU ?_;rw [<-hB];simp [Ph, *];try (first|(intro _;refine List.eq_nil_of_length_eq_zero ?_;omega)|(intro _ h0;have:=congrArg List.length h0;simp only [List.length_nil] at this;omega)))
theorem M6 (d:Nat) (c:Cs) (x:Pc) (hn:0<=c.now/\c.now<=1073741824) (hV:di c.queues=true) {b:Bool} (hB:IX c x=b):FSpec prog 124 [c.a d,x.a d] [] [] (.b b) []:=by
 refine a7 func124 ?_;have hq8:=(bi hV).1;unfold IX at hB;have kC:=P0 c.queues (by omega);obtain ⟨rq,hrq⟩:=qGe (m6 x.req);have kQ:=zo d x.req hrq;rw [hrq] at hB;cases rq with
 | false =>
  obtain rfl:b=false:=by rw [<-hB];rfl
  exact UG
 | true =>
  obtain ⟨e,he⟩:=qGe (fW c.queues x.req.expr);have kR:=Fs d c.queues x.req.expr hV he;rw [he] at hB;by_cases h0:e=0
  case neg =>
   obtain rfl:b=false:=by rw [<-hB,qDf h0];rfl
   exact UG
  subst h0;have hlim:0<=x.req.limit/\x.req.limit<=1000:=by
   unfold m6 at hrq;simp only [qBa,decide_eq_true_eq] at hrq;exact ⟨hrq.1.2,hrq.2⟩
  have hv:kv x.req.expr=true:=by unfold m6 at hrq;simp only [qBa] at hrq;exact hrq.1.1.1.1
  have hgl:(bk c.queues x.proc x.req.expr).length<=1000:=by have:=cD x.req.expr;simp [bk];omega
  obtain ⟨G,hG⟩:=qGe (bk c.queues x.proc x.req.expr);have kGr:=qr d c.queues x hG;rw [hG] at hgl hB;obtain ⟨ho,hho⟩:=qGe (cM x.req.expr G);have kHo:=IE d x.req.expr G hgl hho;rw [hho] at hB;have hnd:=(Mq hv);have hT8:=cD x.req.expr;obtain ⟨T,hT⟩:=qGe (bJ x.req.expr);rw [hT] at hB hnd hT8;have kAt:=mg d x.req.expr hT;by_cases hsn:0<=x.since/\x.since<=c.now
  case neg =>
   obtain rfl:b=false:=by rw [<-hB];by_cases h:0<=x.since <;> simp [h] <;> omega
   by_cases h9:x.since<0
   ·exact UG
   ·exact UG
  obtain ⟨hs1,hs2⟩:=hsn;rw [qDt hs1,qDt hs2] at hB;simp only [decide_true,Bool.true_and] at hB;by_cases hli:x.req.limit=0\/c.now<x.since+x.req.limit
  case neg =>
   obtain rfl:b=false:=by rw [<-hB,qDf (fun h=>hli (.inl h)),qDf (fun h=>hli (.inr h))];rfl
   rw [not_or] at hli;obtain ⟨hl1,hl2⟩:=hli;exact UG
  have hli':(decide (x.req.limit=0) || decide (c.now<x.since+x.req.limit))=true:=by simpa using hli
  rw [hli',Bool.true_and] at hB;cases ho with
  | true =>
   obtain rfl:b=false:=by rw [<-hB];rfl
   by_cases hl2:x.req.limit=0
   ·exact UG
   ·exact UG
  | false =>
   rw [Bool.not_false,Bool.true_and] at hB;obtain ⟨F,hF⟩:∃F:Qu->Bool,(fun q=>cR q x T)=F:=⟨_,rfl⟩;have hF':∀q,cR q x T=F q:=fun q=>congrFun hF q;have h88:∀q∈c.queues,fU q:=fun q hq=>df (cP hV hq);rw [hF] at hB;by_cases hl2:x.req.limit=0
   case' pos =>
    refine ao ?_
   case' neg =>
    refine ao ?_
   all_goals
    refine ab (fun i=>i<=c.queues.length/\(c.queues.all F=(c.queues.drop i).all F)) (fun i=>bP [3] [(3,.c (.ptr 3 0)),(6,.c (.sl c6 T)),(59,.c (.sl eh c.queues)),(60,.i c.queues.length),(61,.i i)] [(3,.box 82 (x.d d))]) (fun i=>c.queues.length-i) 0 ⟨Nat.zero_le _,rfl⟩ aT ?_;clear kAt kHo kGr kR kC kQ hli' hli hs1 hs2 hlim hgl hho hG;rintro i ⟨hi,hs⟩;by_cases hlt:i<c.queues.length
    ·obtain ⟨q,hq⟩:∃q,c.queues[i]? = some q:=⟨_,qGg hlt⟩;have eq:=qGs hq;obtain ⟨_,j2,j3⟩:=h88 q (eq▸List.getElem_mem hlt);rw [qDc hlt,eq,List.all_cons] at hs;obtain ⟨f,hff⟩:=qGe (F q);have kP:=Pf d q x T hnd (by omega) j2 j3 ((hF' q).trans hff);rw [hff] at hs;cases f with
     | false =>
      obtain rfl:b=false:=by rw [<-hB,hs];rfl
      exact UG
     | true =>
      refine ao ?_;refine ⟨i+1,⟨by omega,?_⟩,by omega,?_⟩
      ·rw [hs,Bool.true_and]
      ·exact aT
    ·rw [qDn (by omega),List.all_nil] at hs;obtain rfl:b=true:=by rw [<-hB,hs]
     exact UG
theorem Rr (d:Nat) (l:List Pc) (p:Pr) {z:Int} (hz:bM p 0 l=z):FSpec prog 108 [.one (.sl (fR d) l),.one (.clo 109 [9])] [lV 9 p] [] (.i z) [(9,some (lV 9 p).2)]:=by
 refine a7 func108 ?_;refine aY (fun c ρ a w hr=>bV (t:=0) hr rfl) (fun hl0=>?_);refine ao ?_;refine ab (fun i=>i<=l.length/\bM p i (l.drop i)=z) (fun i=>bP [9] [(0,.c (.sl (fR d) l)),(1,.c (.clo 109 [9])),(7,.i l.length),(8,.i i)] [lV 9 p]) (fun i=>l.length-i) 0 ⟨Nat.zero_le _,hz⟩ aT ?_;rintro i ⟨hi,hs⟩;by_cases hlt:i<l.length
 ·obtain ⟨x,hx⟩:=qGe (l[i]);have hgx:l[i]? = some x:=by rw [qGg hlt,hx]
  rw [qDc hlt,hx] at hs;have hs:(bif decide (x.proc=p) then (i:Int) else bM p (i+1) (l.drop (i+1)))=z:=hs;obtain ⟨b,hb1⟩:=qGe (decide (x.proc=p));have kS:=P1 d x p hb1;rw [hb1] at hs;cases b with
  | true =>
   obtain rfl:(i:Int)=z:=hs;exact VX
  | false =>
   repeat' (first|refine av ?_ ?_|(refine aa 9 rfl ?_;refine ov 1 [9] (qf [(9,9)]) kS ?_)|refine aq ?_|exact aw|refine ap fun hb=>?_)
   exact UT
 ·rw [qDn (by omega)] at hs;obtain rfl : -1=z:=hs;exact UG
theorem xB (d:Nat) (l:List Pc) (p:Pr) {z:Int} (hz:bM p 0 l=z):FSpec prog 63 [.one (.sl (fR d) l),p.a] [] [] (.i z) []:=by
 refine a7 func63 ?_;have kF:=Rr d l p hz;repeat' (first|refine av ?_ ?_|(refine aa 0 rfl ?_;refine sx (dH (ks:=[3]) rfl rfl) ?_)|refine aa 9 rfl (cH (qf [(9,3)]) kF ?_)|refine aq ?_|exact aw|refine ap fun hb=>?_|exact bg|fail)
theorem Ku (d:Nat) (c:Cs) (x:Pc) (hn:0<=c.now/\c.now<=1073741824) (hV:di c.queues=true) {b:Bool} (hB:oB c x=b):FSpec prog 72 [c.a d,x.a d] [] [] (.b b) []:=by
 refine a7 func72 ?_;have hq8:=(bi hV).1;rw [Fu] at hB;have kV:=io x.proc;have kG:=eQ x.led;obtain ⟨v,hv⟩:=qGe (jW x.proc);rw [hv] at kV;cases v with
 | false =>
  obtain rfl:b=false:=by rw [<-hB,hv];rfl
  exact UG
 | true =>
  by_cases h1:1<=x.cost/\x.cost<=1000
  case neg =>
   obtain rfl:b=false:=by rw [<-hB,show decide (1<=x.cost) = !decide (x.cost<1) by by_cases h:x.cost<1 <;> simp [h] <;> omega];by_cases h:x.cost<1 <;> simp [h] <;> omega
   by_cases h2:x.cost<1
   ·exact UG
   ·exact UG
  obtain ⟨h1,h2⟩:=h1;rw [hv,qDt h1,qDt h2] at hB;by_cases h3:0<=x.gen/\x.gen<=1073741824
  case neg =>
   obtain rfl:b=false:=by rw [<-hB];by_cases h:0<=x.gen <;> simp [h] <;> omega
   by_cases h4:x.gen<0
   ·exact UG
   ·exact UG
  obtain ⟨h3,h4⟩:=h3;rw [qDt h3,qDt h4] at hB;obtain ⟨g,hg⟩:=qGe (rT x.led);rw [hg] at kG hB;cases g with
  | false =>
   obtain rfl:b=false:=by rw [<-hB];rfl
   exact UG
  | true =>
   simp only [Bool.true_and] at hB;obtain ⟨L,hL⟩:=qGe (dx x.led);have kH:=M3 x.led (eZ hg).1 hL;have hL8:L.length<=8:=by
    rw [<-hL];unfold dx;exact Nat.le_trans (List.length_filter_le _ _) (by rw [List.length_map];exact (eK.1 hg).nms)
   rw [hL] at hB;refine ao ?_;refine ab (fun i=>i<=L.length/\(L.all (Kt c)=(L.drop i).all (Kt c))) (fun i=>bP [2,3] [(2,.c (.ptr 2 0)),(3,.c (.ptr 3 0)),(38,.c (.sl c6 L)),(39,.i L.length),(40,.i i)] [(2,.box 32 (c.d d)),(3,.box 82 (x.d d))]) (fun i=>L.length-i) 0 ⟨Nat.zero_le _,rfl⟩ aT ?_;rintro i ⟨hi,hs⟩;by_cases hlt:i<L.length
   ·obtain ⟨a,ha⟩:∃a,L[i]? = some a:=⟨_,qGg hlt⟩;have ea:=qGs ha;rw [qDc hlt,ea,List.all_cons] at hs;by_cases hk:bG a.name 0 c.queues<0
    ·have hf:Kt c a=false:=by unfold Kt bd;rw [qDf (by omega)];rfl
     obtain rfl:b=false:=by rw [<-hB,hs,hf];rfl
     have kF:=jC c.queues a.name rfl;exact UG
    ·obtain ⟨j,hj,hF,hqa,hx⟩:=eC hk;have kF:=jC c.queues a.name hF;obtain ⟨q,hq⟩:∃q,c.queues[j]? = some q:=⟨_,qGg hj⟩;have eq:=qGs hq;have hf:Kt c a=aS q.res a.am:=by
      unfold Kt bd bf;rw [hqa,eq,qDt (by omega)];rfl
     have kR:=fp q.res a.am;obtain ⟨f,hff⟩:=qGe (aS q.res a.am);rw [hff] at kR hf;rw [hf] at hs;clear hF hk hqa hx;cases f with
     | false =>
      obtain rfl:b=false:=by rw [<-hB,hs];rfl
      exact UG
     | true =>
      refine ao ?_;refine ⟨i+1,⟨by omega,?_⟩,by omega,?_⟩
      ·rw [hs,Bool.true_and]
      ·exact aT
   rw [qDn (by omega),List.all_nil] at hs;rw [hs,Bool.true_and] at hB;clear hs kH kG kV;cases hw:x.waiting with
   | false =>
    rw [hw,Bool.not_false,qCt] at hB;have kR:=M5 d c x hV hg hB;exact UG
   | true =>
    rw [hw,Bool.not_true,qCf] at hB;have kW:=M6 d c x hn hV hB;exact UG
theorem C5 (d:Nat) (c:Cs) {b:Bool} (hB:cG c=b):FSpec prog 43 [c.a d] [] [] (.b b) []:=by
 refine a7 func43 ?_;unfold cG at hB;have kV:=xr c.queues;obtain ⟨v,hv⟩:=qGe (di c.queues);rw [hv] at kV;by_cases h1:0<=c.now/\c.now<=1073741824
 case neg =>
  obtain rfl:b=false:=by rw [<-hB];by_cases h:0<=c.now <;> simp [h] <;> omega
  by_cases h2:c.now<0
  ·exact UG
  ·exact UG
 have hn:=h1;obtain ⟨h1,h2⟩:=h1;rw [hv,qDt h1,qDt h2] at hB;cases v with
 | false =>
  obtain rfl:b=false:=by rw [<-hB];rfl
  exact UG
 | true =>
  have hp8:=bi hv;by_cases h8:c.procs.length<=8
  case neg =>
   obtain rfl:b=false:=by rw [<-hB,qDf h8];rfl
   exact UG
  rw [qDt h8] at hB;simp only [Bool.true_and] at hB;obtain ⟨L,hL⟩:=qGe (aO c.queues);have kP:=Cr c.queues (by omega) (fun q hq=>df (cP hv hq));have hLl:L.length<=8:=by rw [<-hL];exact hp8.2.2
  rw [hL] at kP hB;obtain ⟨G,hG⟩:∃G:Pr->Bool,(fun p=>decide (0<=bM p 0 c.procs))=G:=⟨_,rfl⟩;have hG':∀p,decide (0<=bM p 0 c.procs)=G p:=fun p=>congrFun hG p;rw [hG,Bool.and_comm] at hB;obtain ⟨T,hT⟩:=qGe (L.all G);rw [hT] at hB;refine ao ?_;refine ab (fun y:Nat×Option Pr=>y.1<=c.procs.length/\(y.1=0/\y.2=none\/0<y.1/\∃z,c.procs[((y.1:Int)-1).toNat]? = some z/\y.2=some z.proc)/\(Cc c y.2 (c.procs.drop y.1) && T)=b) (fun y=>bP [1] [(1,.c (.ptr 1 0)),(28,.c (.sl (fR d) c.procs)),(29,.i c.procs.length),(30,.i y.1)] [(1,.box 32 (c.d d))]) (fun y=>c.procs.length-y.1) (0,none) ⟨Nat.zero_le _,.inl ⟨rfl,rfl⟩,hB⟩ aT ?_;clear hB;rintro ⟨i,o⟩ ⟨hi,ho,hs⟩;dsimp only at *
  by_cases hlt:i<c.procs.length
  ·obtain ⟨x,hx⟩:∃x,c.procs[i]? = some x:=⟨_,qGg hlt⟩;have ex:=qGs hx;rw [qDc hlt,ex,BC] at hs;obtain ⟨pb,hpb⟩:=qGe (oB c x);have kX:=Ku d c x hn hv hpb;rw [hpb] at hs;clear kP;rcases ho with ⟨h0,rfl⟩|⟨h0,z,hz,rfl⟩
   ·rw [show Nu none x.proc=true from rfl,Bool.and_true] at hs;cases pb with
    | false =>
     obtain rfl:b=false:=hs.symm;exact UG
    | true =>
     rw [Bool.true_and] at hs;refine ao ?_;refine ⟨(i+1,some x.proc),⟨by dsimp only;omega,.inr ⟨by dsimp only;omega,x,?_,rfl⟩,hs⟩,by dsimp only;omega,?_⟩
     ·dsimp only;rw [<-hx];congr 1
      omega
     ·exact aT
   ·have kC:=lc z.proc x.proc;obtain ⟨e,he⟩:=qGe (cl z.proc x.proc);rw [show Nu (some z.proc) x.proc=decide (cl z.proc x.proc<0) from rfl,he] at hs;rw [he] at kC;by_cases hneg:e<0
    case neg =>
     obtain rfl:b=false:=by rw [<-hs,qDf hneg,Bool.and_false];rfl
     exact UG
    rw [qDt hneg,Bool.and_true] at hs;cases pb with
    | false =>
     obtain rfl:b=false:=hs.symm;exact UG
    | true =>
     rw [Bool.true_and] at hs;refine ao ?_;refine ⟨(i+1,some x.proc),⟨by dsimp only;omega,.inr ⟨by dsimp only;omega,x,?_,rfl⟩,hs⟩,by dsimp only;omega,?_⟩
     ·dsimp only;rw [<-hx];congr 1
      omega
     ·exact aT
  rw [qDn (by omega)] at hs;have hs:T=b:=by rw [<-hs];rfl
  rw [<-hT] at hs;clear hT ho;refine ao ?_;refine ab (fun i=>i<=L.length/\(L.drop i).all G=b) (fun i=>bP [1] [(1,.c (.ptr 1 0)),(57,.c (.sl gK L)),(58,.i L.length),(59,.i i)] [(1,.box 32 (c.d d))]) (fun i=>L.length-i) 0 ⟨Nat.zero_le _,hs⟩ aT ?_;clear hs kP hi hlt;rintro i ⟨hi,hs⟩;by_cases hlt:i<L.length
  ·obtain ⟨p,hp⟩:∃p,L[i]? = some p:=⟨_,qGg hlt⟩;have ep:=qGs hp;rw [qDc hlt,ep,List.all_cons] at hs;obtain ⟨ix,hix⟩:=qGe (bM p 0 c.procs);have kI:=xB d c.procs p hix;have hgp:=hG' p;rw [hix] at hgp;by_cases h0:0<=ix
   ·rw [qDt h0] at hgp;rw [<-hgp,Bool.true_and] at hs;refine ao ?_;exact UT
   ·rw [qDf h0] at hgp;obtain rfl:b=false:=by rw [<-hs,<-hgp];rfl
    exact UG
  ·rw [qDn (by omega)] at hs;obtain rfl:b=true:=hs.symm;exact UG
end Go.Proofs.YthpgjkjgkhjjlaaGreatDoor
