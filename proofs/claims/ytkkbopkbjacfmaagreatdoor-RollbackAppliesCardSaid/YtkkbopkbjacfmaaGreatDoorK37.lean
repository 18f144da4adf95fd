/- Part K37 of a proof of statements of chapter 15 (no condition). -/
import Derived.Test.YtkkbopkbjacfmaaGreatDoorK33
import Derived.Test.YtkkbopkbjacfmaaGreatDoorK34
set_option linter.unusedVariables false
set_option linter.unusedSimpArgs false
set_option maxRecDepth 100000
set_option maxHeartbeats 64000000
namespace Go.Proofs.YtkkbopkbjacfmaaGreatDoor
open Go.RowKit Go.Proofs.Tryz
theorem lh (a b:List Tm):FSpec prog 35 [.one (.sl da a),.one (.sl da b)] [] [] (.b (decide (a=b))) []:=by
 refine aS func35 ?_;refine aP (fun c ρ a w hr=>ck (t:=0) hr rfl) (fun hl0=>?_);by_cases hl:a.length=b.length
 case neg =>
  have hne:a≠b:=fun e=>hl (by rw [e]);rw [qDf hne];refine ao ?_;exact aT
 refine ao ?_;refine ab (fun i=>i<=a.length/\((a=b)↔a.drop i=b.drop i)) (fun i=>bC [] [(0,.c (.sl da a)),(1,.c (.sl da b)),(5,.i i)] []) (fun i=>a.length-i) 0 ⟨Nat.zero_le _,Iff.rfl⟩ aL ?_;rintro i ⟨hi,hs⟩;by_cases hlt:i<a.length
 ·have hlt2:i<b.length:=by omega
  rw [qDc hlt,qDc hlt2,List.cons.injEq] at hs;obtain ⟨x,hx⟩:∃x,a[i]? = some x:=⟨_,qGg hlt⟩;obtain ⟨y,hy⟩:∃y,b[i]? = some y:=⟨_,qGg hlt2⟩;have ex:=qGs hx;have ey:=qGs hy;rw [ex,ey] at hs;clear ex ey;by_cases he:x=y
  ·subst he;refine ao ?_;refine ⟨i+1,⟨by omega,?_⟩,by omega,?_⟩
   ·rw [hs];simp
   ·exact aL
  ·rw [qDf (fun e=>he (hs.1 e).1)];exact QY
 ·rw [qDn (by omega),qDn (by omega)] at hs;rw [qDt (hs.2 rfl)];exact QY
theorem Qm (l:List Tm):(((l.length:Nat):Int) == 0)=decide (l=[]):=by
 rw [Bool.eq_iff_iff];cases l with
 | nil=>simp
 | cons x l=>simp;omega
def Cs.d (d:Nat) (c:Cs):List D:=[.sc (.int .i64 c.now),.sl ic c.queues,.sl (wS d) c.procs]
def Cs.a (d:Nat) (c:Cs):V0:=.ag (c.d d)
def NQ (c:Cs) (a:Tm):Bool:=bh c.queues a.name && aH (bG c.queues a.name).res a.am
def Pz (c:Cs) (x:Pc):Bool:=No x.req && decide (x.since=0) && decide (iJ x.led=cI c.queues x.proc) && decide (cY x.proc c.queues=[])
def MD (c:Cs) (x:Pc):Bool:=qW x.req && decide (iK c.queues x.req.expr=0) && decide (0<=x.since) && decide (x.since<=c.now) && (decide (x.req.limit=0) || decide (c.now<x.since+x.req.limit)) && !fu x.req.expr (bN c.queues x.proc x.req.expr) && c.queues.all (fun q=>d7 q x (cR x.req.expr))
theorem I3 (c:Cs) (x:Pc):sQ c x=(gm x.proc && decide (1<=x.cost) && decide (x.cost<=1000) && qT x.led && decide (0<=x.gen) && decide (x.gen<=1073741824) && (iJ x.led).all (NQ c) && bif !x.waiting then Pz c x else MD c x):=rfl
theorem I4 (d:Nat) (c:Cs) (x:Pc) (hn:0<=c.now/\c.now<=1073741824) (hV:eV c.queues=true) {b:Bool} (hB:sQ c x=b):FSpec prog 150 [c.a d,x.a d] [] [] (.b b) []:=by
 refine aS func150 ?_;have hq8:=(cm hV).1;rw [I3] at hB;have kV:=eS x.proc;have kG:=co x.led;obtain ⟨v,hv⟩:=qGe (gm x.proc);rw [hv] at kV;cases v with
 | false =>
  obtain rfl:b=false:=by rw [<-hB,hv];rfl
  exact QY
 | true =>
  by_cases h1:1<=x.cost/\x.cost<=1000
  case neg =>
   obtain rfl:b=false:=by rw [<-hB,show decide (1<=x.cost) = !decide (x.cost<1) by by_cases h:x.cost<1 <;> simp [h] <;> omega];by_cases h:x.cost<1 <;> simp [h] <;> omega
   by_cases h2:x.cost<1
   ·exact QY
   ·exact QY
  obtain ⟨h1,h2⟩:=h1;rw [hv,qDt h1,qDt h2] at hB;obtain ⟨g,hg⟩:=qGe (qT x.led);rw [hg] at kG hB;cases g with
  | false =>
   obtain rfl:b=false:=by rw [<-hB];rfl
   exact QY
  | true =>
   by_cases h3:0<=x.gen/\x.gen<=1073741824
   case neg =>
    obtain rfl:b=false:=by rw [<-hB];by_cases h:0<=x.gen <;> simp [h] <;> omega
    by_cases h4:x.gen<0
    ·exact QY
    ·exact QY
   obtain ⟨h3,h4⟩:=h3;rw [qDt h3,qDt h4] at hB;simp only [Bool.true_and] at hB;have kH:=CZ x.led (gK hg).1;obtain ⟨L,hL⟩:=qGe (iJ x.led);have hL8:L.length<=8:=by
    rw [<-hL];unfold iJ;exact Nat.le_trans (List.length_filter_le _ _) (by rw [List.length_map];exact (fZ.1 hg).nms)
   rw [hL] at kH hB;refine ao ?_;refine ab (fun i=>i<=L.length/\(L.all (NQ c)=(L.drop i).all (NQ c))) (fun i=>bC [2,3] [(2,.c (.ptr 2 0)),(3,.c (.ptr 3 0)),(5,.c (.sl da L)),(6,.i i)] [(2,.box 50 (c.d d)),(3,.box 121 (x.d d))]) (fun i=>L.length-i) 0 ⟨Nat.zero_le _,rfl⟩ aL ?_;rintro i ⟨hi,hs⟩;by_cases hlt:i<L.length
   ·obtain ⟨a,ha⟩:∃a,L[i]? = some a:=⟨_,qGg hlt⟩;have ea:=qGs ha;rw [qDc hlt,ea,List.all_cons] at hs;by_cases hk:bV a.name 0 c.queues<0
    ·have hf:NQ c a=false:=by unfold NQ bh;rw [qDf (by omega)];rfl
     obtain rfl:b=false:=by rw [<-hB,hs,hf];rfl
     have kF:=om c.queues a.name;exact QY
    ·obtain ⟨j,hj,hF,hqa,hx⟩:=gH hk;have kF:=du c.queues a.name hF;obtain ⟨q,hq⟩:∃q,c.queues[j]? = some q:=⟨_,qGg hj⟩;have eq:=qGs hq;have hf:NQ c a=aH q.res a.am:=by
      unfold NQ bh bG;rw [hqa,eq,qDt (by omega)];rfl
     have kR:=iN q.res a.am;obtain ⟨f,hff⟩:=qGe (aH q.res a.am);rw [hff] at kR hf;rw [hf] at hs;clear hF hk hqa hx;cases f with
     | false =>
      obtain rfl:b=false:=by rw [<-hB,hs];rfl
      exact QY
     | true =>
      refine ao ?_;refine ⟨i+1,⟨by omega,?_⟩,by omega,?_⟩
      ·rw [hs,Bool.true_and]
      ·exact aL
   rw [qDn (by omega),List.all_nil] at hs;rw [hs,Bool.true_and] at hB;clear hs;cases hw:x.waiting with
   | false =>
    rw [hw,Bool.not_false,qCt] at hB;rw [<-hB];have kA:=FW d x.req;have kO:=nj c.queues x.proc (by omega);have kS:=lh L (cI c.queues x.proc);have kC:=LB c.queues x.proc (by omega);repeat' (first|refine az ?_ ?_|refine fV ?_|refine ay ?_|exact aA|(refine ax fun hb=>?_;first|(cases hw.symm.trans hb;done)|skip))
    all_goals (refine eR ?_;rw [<-hL] at *;simp [Pz,Qm, *])
   | true =>
    rw [hw,Bool.not_true,qCf] at hB;unfold MD at hB;have kQ:=vy d x.req;have kC:=AO c.queues (by omega);have kR:=Pm d c.queues x.req.expr hV;obtain ⟨rq,hrq⟩:=qGe (qW x.req);rw [hrq] at kQ hB;cases rq with
    | false =>
     obtain rfl:b=false:=by rw [<-hB];rfl
     exact QY
    | true =>
     obtain ⟨e,he⟩:=qGe (iK c.queues x.req.expr);rw [he] at kR hB;by_cases h0:e=0
     case neg =>
      obtain rfl:b=false:=by rw [<-hB,qDf h0];rfl
      exact QY
     subst h0;have hlim:0<=x.req.limit/\x.req.limit<=1000:=by
      unfold qW at hrq;simp only [qBa,decide_eq_true_eq] at hrq;exact ⟨hrq.1.2,hrq.2⟩
     have hgl:(bN c.queues x.proc x.req.expr).length<=1000:=by have:=dE x.req.expr;simp [bN];omega
     have kGr:=mq d c.queues x.proc x.req.expr;have kHo:=vn d x.req.expr (bN c.queues x.proc x.req.expr) hgl;obtain ⟨T,hT⟩:=qGe (cR x.req.expr);rw [hT] at hB;have kAt:=jO d x.req.expr hT;by_cases hsn:0<=x.since/\x.since<=c.now
     case neg =>
      obtain rfl:b=false:=by rw [<-hB];by_cases h:0<=x.since <;> simp [h] <;> omega
      by_cases h9:x.since<0
      ·exact QY
      ·exact QY
     obtain ⟨hs1,hs2⟩:=hsn;rw [qDt hs1,qDt hs2] at hB;simp only [decide_true,Bool.true_and] at hB;by_cases hli:x.req.limit=0\/c.now<x.since+x.req.limit
     case neg =>
      obtain rfl:b=false:=by rw [<-hB,qDf (fun h=>hli (.inl h)),qDf (fun h=>hli (.inr h))];rfl
      rw [not_or] at hli;obtain ⟨hl1,hl2⟩:=hli;exact QY
     have hli':(decide (x.req.limit=0) || decide (c.now<x.since+x.req.limit))=true:=by simpa using hli
     rw [hli',Bool.true_and] at hB;obtain ⟨ho,hho⟩:=qGe (fu x.req.expr (bN c.queues x.proc x.req.expr));rw [hho] at kHo hB;cases ho with
     | true =>
      obtain rfl:b=false:=by rw [<-hB];rfl
      rcases hli with hl1|hl1
      ·exact QY
      ·by_cases hl2:x.req.limit=0
       ·repeat' (first|refine az ?_ ?_|refine fV ?_|refine ay ?_|exact aA|(refine ax fun hb=>?_;first|(cases hw.symm.trans hb;done)|(exact absurd hl2 hb)|skip)|exact aT|fail)
       ·exact QY
     | false =>
      rw [Bool.not_false,Bool.true_and] at hB;obtain ⟨F,hF⟩:∃F:Qu->Bool,(fun q=>d7 q x T)=F:=⟨_,rfl⟩;have hF':∀q,d7 q x T=F q:=fun q=>congrFun hF q;rw [hF] at hB;by_cases hl2:x.req.limit=0
      case' pos =>
       refine ao ?_
      case' neg =>
       refine ao ?_
      all_goals
       refine ab (fun i=>i<=c.queues.length/\(c.queues.all F=(c.queues.drop i).all F)) (fun i=>bC [2,3] [(2,.c (.ptr 2 0)),(3,.c (.ptr 3 0)),(9,.c (.sl da T)),(10,.i i)] [(2,.box 50 (c.d d)),(3,.box 121 (x.d d))]) (fun i=>c.queues.length-i) 0 ⟨Nat.zero_le _,rfl⟩ aL ?_;clear kAt kHo kGr kR kC kQ hli';rintro i ⟨hi,hs⟩;by_cases hlt:i<c.queues.length
       ·obtain ⟨q,hq⟩:∃q,c.queues[i]? = some q:=⟨_,qGg hlt⟩;have eq:=qGs hq;rw [qDc hlt,eq,List.all_cons] at hs;have kP:=Py d q x T;rw [hF'] at kP;obtain ⟨f,hff⟩:=qGe (F q);rw [hff] at kP hs;cases f with
        | false =>
         obtain rfl:b=false:=by rw [<-hB,hs];rfl
         exact QY
        | true =>
         refine ao ?_;refine ⟨i+1,⟨by omega,?_⟩,by omega,?_⟩
         ·rw [hs,Bool.true_and]
         ·exact aL
       ·rw [qDn (by omega),List.all_nil] at hs;obtain rfl:b=true:=by rw [<-hB,hs]
        exact QY
end Go.Proofs.YtkkbopkbjacfmaaGreatDoor
