/- Part K39 of a proof of statements of chapter 15 (no condition). -/
import Derived.Test.YtkkbopkbjacfmaaGreatDoorK37
import Derived.Test.YtkkbopkbjacfmaaGreatDoorK35
set_option linter.unusedVariables false
set_option linter.unusedSimpArgs false
set_option maxRecDepth 100000
set_option maxHeartbeats 64000000
namespace Go.Proofs.YtkkbopkbjacfmaaGreatDoor
open Go.RowKit Go.Proofs.Tryz
theorem Gc (c:Cs) (o:Option Pr) (x:Pc) (l:List Pc):AA c o (x :: l)=(sQ c x && Mp o x.proc && AA c (some x.proc) l):=rfl
theorem ED (d:Nat) (c:Cs) {b:Bool} (hB:dA c=b):FSpec prog 70 [c.a d] [] [] (.b b) []:=by
 refine aS func70 ?_;unfold dA at hB;have kV:=dD c.queues;obtain ⟨v,hv⟩:=qGe (eV c.queues);rw [hv] at kV;by_cases h1:0<=c.now/\c.now<=1073741824
 case neg =>
  obtain rfl:b=false:=by rw [<-hB];by_cases h:0<=c.now <;> simp [h] <;> omega
  by_cases h2:c.now<0
  ·exact QY
  ·exact QY
 have hn:=h1;obtain ⟨h1,h2⟩:=h1;rw [hv,qDt h1,qDt h2] at hB;cases v with
 | false =>
  obtain rfl:b=false:=by rw [<-hB];rfl
  exact QY
 | true =>
  have hp8:=cm hv;by_cases h8:c.procs.length<=8
  case neg =>
   obtain rfl:b=false:=by rw [<-hB,qDf h8];rfl
   exact QY
  rw [qDt h8] at hB;simp only [Bool.true_and] at hB;obtain ⟨L,hL⟩:=qGe (aD c.queues);have kP:=pu c.queues (by omega) (fun q hq=>ou (dc hv hq));have hLl:L.length<=8:=by rw [<-hL];exact hp8.2.2
  rw [hL] at kP hB;obtain ⟨G,hG⟩:∃G:Pr->Bool,(fun p=>decide (0<=d8 p 0 c.procs))=G:=⟨_,rfl⟩;have hG':∀p,decide (0<=d8 p 0 c.procs)=G p:=fun p=>congrFun hG p;rw [hG] at hB;refine ao ?_;refine ab (fun i=>i<=L.length/\(L.all G=(L.drop i).all G)) (fun i=>bC [1] [(1,.c (.ptr 1 0)),(3,.c (.sl eh L)),(4,.i i)] [(1,.box 50 (c.d d))]) (fun i=>L.length-i) 0 ⟨Nat.zero_le _,rfl⟩ aL ?_;rintro i ⟨hi,hs⟩;by_cases hlt:i<L.length
  ·obtain ⟨p,hp⟩:∃p,L[i]? = some p:=⟨_,qGg hlt⟩;have ep:=qGs hp;rw [qDc hlt,ep,List.all_cons] at hs;obtain ⟨ix,hix⟩:=qGe (d8 p 0 c.procs);have kI:=zi c.procs d p hix;have hgp:=hG' p;rw [hix] at hgp;by_cases h0:0<=ix
   ·rw [qDt h0] at hgp;refine ao ?_;refine ⟨i+1,⟨by omega,?_⟩,by omega,?_⟩
    ·rw [hs,<-hgp,Bool.true_and]
    ·exact aL
   ·rw [qDf h0] at hgp;obtain rfl:b=false:=by rw [<-hB,hs,<-hgp];rfl
    exact QY
  rw [qDn (by omega),List.all_nil] at hs;rw [hs,Bool.true_and] at hB;clear hs hG hG' kP kV;refine ao ?_;refine ab (fun y:Nat×Option Pr=>y.1<=c.procs.length/\(y.1=0/\y.2=none\/0<y.1/\∃z,c.procs[((y.1:Int)-1).toNat]? = some z/\y.2=some z.proc)/\AA c y.2 (c.procs.drop y.1)=b) (fun y=>bC [1] [(1,.c (.ptr 1 0)),(5,.i y.1)] [(1,.box 50 (c.d d))]) (fun y=>c.procs.length-y.1) (0,none) ⟨Nat.zero_le _,.inl ⟨rfl,rfl⟩,hB⟩ aL ?_;clear hB;rintro ⟨i,o⟩ ⟨hi,ho,hs⟩;dsimp only at *
  by_cases hlt:i<c.procs.length
  ·obtain ⟨x,hx⟩:∃x,c.procs[i]? = some x:=⟨_,qGg hlt⟩;have ex:=qGs hx;rw [qDc hlt,ex,Gc] at hs;obtain ⟨pb,hpb⟩:=qGe (sQ c x);have kP:=I4 d c x hn hv hpb;rw [hpb] at hs;have hx2:c.procs[((i+1:Nat):Int).toNat-1]? = some x:=by rw [<-hx];congr 1
   cases pb with
   | false =>
    obtain rfl:b=false:=hs.symm;exact QY
   | true =>
    rw [Bool.true_and] at hs;rcases ho with ⟨h0,rfl⟩|⟨h0,z,hz,rfl⟩
    ·rw [show Mp none x.proc=true from rfl,Bool.true_and] at hs;refine ao ?_;refine ⟨(i+1,some x.proc),⟨by dsimp only;omega,.inr ⟨by dsimp only;omega,x,?_,rfl⟩,hs⟩,by dsimp only;omega,?_⟩
     ·dsimp only;rw [<-hx];congr 1
      omega
     ·exact aL
    ·have kC:=iO z.proc x.proc;obtain ⟨e,he⟩:=qGe (bH z.proc x.proc);rw [show Mp (some z.proc) x.proc=decide (bH z.proc x.proc<0) from rfl,he] at hs;rw [he] at kC;by_cases hneg:e<0
     ·rw [qDt hneg,Bool.true_and] at hs;refine ao ?_;refine ⟨(i+1,some x.proc),⟨by dsimp only;omega,.inr ⟨by dsimp only;omega,x,?_,rfl⟩,hs⟩,by dsimp only;omega,?_⟩
      ·dsimp only;rw [<-hx];congr 1
       omega
      ·exact aL
     ·rw [qDf hneg] at hs;obtain rfl:b=false:=hs.symm;exact QY
  ·rw [qDn (by omega)] at hs;obtain rfl:b=true:=hs.symm;exact QY
theorem NT (d:Nat) (c:Cs) (h1:c.queues.length<=100000) (h2:c.procs.length<=100000):FSpec prog 92 [c.a d] [] [1,2] (.v (.ag [.sc (.int .i64 c.now),.own 1,.own 2])) [(1,some (.arr 78 ic c.queues)),(2,some (.arr 121 (wS d) c.procs))]:=by
 refine aS func92 ?_;refine ao ?_
 (refine cn (qf [(1,6),(2,11)]) ?_;exact ak)
theorem Oh (d:Nat) (c:Cs) {R:Ws} (hR:wG c=R):FSpec prog 22 [c.a d] [] [] (.v (R.a d)) []:=by
 refine aS func22 ?_;unfold wG at hR;obtain ⟨v,hv⟩:=qGe (dA c);have kV:=ED d c hv;rw [hv] at hR;cases v with
 | false =>
  obtain rfl:R=⟨[],[]⟩:=hR.symm;exact QY
 | true =>
  obtain ⟨hci,_⟩:=cf.1 hv;have h8:=hci.len;have hq8:=(cm hci.tv).1;obtain ⟨F,hF⟩:=qGe ((c.procs.filter (·.waiting)).map nS);rw [Bool.not_true,qCf,hF] at hR;obtain rfl:R=⟨c.queues,F⟩:=hR.symm;refine ao ?_;refine eG 3 1 1000 68 (B9 d) rfl rfl rfl rfl ?_;refine ab (fun y:Nat×List Nd=>y.1<=c.procs.length/\y.2.length<=y.1/\y.2++((c.procs.drop y.1).filter (·.waiting)).map nS=F) (fun y=>bC [1,2,3,1000,1001] [(1,.c (.ptr 1 0)),(2,.c (.ptr 2 0)),(3,.c (.ptr 3 0)),(4,.i y.1)] [(1,.box 50 (c.d d)),(2,.box 28 [.sc (.slice none 0 0),.sc (.slice none 0 0)]),(3,.box 28 [.own 1001,.own 1000]),(1001,.arr 78 ic c.queues),(1000,.arr 68 (B9 d) y.2)]) (fun y=>c.procs.length-y.1) (0,[]) ⟨Nat.zero_le _,Nat.le_refl _,hF⟩ (by exact a8 (qf [(1001,12)])) ?_;clear hF;rintro ⟨i,T⟩ ⟨hi,hTl,hs⟩;dsimp only at *
  by_cases hlt:i<c.procs.length
  ·obtain ⟨x,hx⟩:∃x,c.procs[i]? = some x:=⟨_,qGg hlt⟩;have ex:=qGs hx;rw [qDc hlt,ex,List.filter_cons] at hs;cases hw:x.waiting with
   | true =>
    rw [if_pos hw,List.map_cons] at hs;repeat' (first|refine az ?_ ?_|(refine aa 8 rfl ?_;refine aK (ae rfl rfl (av rfl rfl) (aB [nS x] rfl rfl rfl rfl) rfl aE aE) rfl rfl rfl ?_)|refine ay ?_|exact aA|(refine ax fun hb=>?_;first|(cases hw.symm.trans hb;done)|skip))
    refine ⟨(i+1,T++[nS x]),⟨by dsimp only;omega,by simp;omega,?_⟩,by dsimp only;omega,?_⟩
    ·exact Ry
    ·exact a8 (qf [(1000,50)])
   | false =>
    rw [if_neg (by rw [hw];decide)] at hs;exact Rl
  ·rw [qDn (by omega)] at hs;obtain rfl:T=F:=by rw [<-hs];simp
   exact QY
theorem EV:∀(n:Nat) (s:Ws),RedOk n s->bb (oH n s).2=true
 | 0,s,h=>h.1
 | n+1,s,h=>by
  cases hF:iX s with
  | nil=>rw [wA hF];exact h.1
  | cons p l=>rw [rt hF];exact EV n _ (h.2 p l hF)
theorem BQ (s:Ws):(il s).2.length<=8:=by
 unfold il;cases hv:bb s with
 | false=>exact Nat.zero_le _
 | true=>exact (dU (EV _ _ (EU _ s hv (Nat.le_refl _)))).2.2.2
theorem JM (d:Nat) (s:Ws) {R:List Pr×List Pr} (hR:il s=R):FSpec prog 14 [s.a d] [] [] (.tup [.one (.sl eh R.1),.one (.sl eh R.2)]) []:=by
 unfold il at hR;cases hv:bb s with
 | true =>
  rw [hv] at hR;obtain rfl:=hR.symm;exact LX d s _ (by have:=(dU hv).2.2.2;omega) (EU _ s hv (Nat.le_refl _)) rfl
 | false =>
  rw [hv] at hR;obtain rfl:R=([],[]):=hR.symm;refine aS func14 ?_;have kV:=mV d s;rw [hv] at kV;refine ao ?_
  (refine gG (qf []) ?_;exact ak)
theorem GB (p:Pc):(ie p).length<=5:=by
 unfold ie;cases hh:gm p.proc && decide (1<=p.cost) && decide (p.cost<=1000) && qT p.led && (!p.waiting || qW p.req) with
 | false=>exact Nat.zero_le _
 | true =>
  simp only [qBa] at hh;have h4:=(gK hh.1.2).2;show (bif (vU p).all iT then vU p else []).length<=5;cases (vU p).all iT with
  | false=>exact Nat.zero_le _
  | true =>
   show (vU p).length<=5;unfold vU;simp;omega
def pZ (x:Pc):List Pr->List Opn->List Opn
 | [],T=>T
 | q :: l,T=>pZ x l (bif decide (x.proc=q) then T++ie x else T)
def yf (dead:List Pr):List Pc->List Opn->List Opn
 | [],T=>T
 | x :: l,T=>yf dead l (pZ x dead T)
def nT (c:Cs) (m:Nat):List Opn:=(yf (il (wG c)).2 c.procs []).take m
theorem JN (d:Nat) (c:Cs) (m:Nat) (hm:m<=1000) (hc:c.procs.length<=8) {R:List Opn} (hR:nT c m=R):FSpec prog 23 [c.a d,lD m] [] [0] (.c (.own 0)) [(0,some (.arr 46 vS R))]:=by
 refine aS func23 ?_;unfold nT at hR;have kO:=Oh d c rfl;obtain ⟨Z,hZ⟩:=qGe (il (wG c));have kR:=JM d (wG c) hZ;have hl8:=BQ (wG c);rw [hZ] at hR hl8;obtain ⟨Z1,dead⟩:=Z;dsimp only at hR hl8 kR;generalize wG c=O at kO kR;refine ao ?_;refine bK 5 1000 46 vS rfl rfl rfl ?_;obtain ⟨T9,hT9⟩:=qGe (yf dead c.procs []);rw [hT9] at hR;refine ab (fun y:Nat×List Opn=>y.1<=c.procs.length/\y.2.length<=40*y.1/\yf dead (c.procs.drop y.1) y.2=T9) (fun y=>bC [2,1000] [(1,.v (lD m)),(2,.c (.ptr 2 0)),(5,.c (.own 1000)),(7,.c (.sl eh dead)),(8,.i y.1)] [(2,.box 50 (c.d d)),(1000,.arr 46 vS y.2)]) (fun y=>c.procs.length-y.1) (0,[]) ⟨Nat.zero_le _,Nat.le_refl _,hT9⟩ aL ?_;clear hT9 kO kR hZ;rintro ⟨i,T⟩ ⟨hi,hTl,hs⟩;dsimp only at *
 by_cases hlt:i<c.procs.length
 case neg =>
  rw [qDn (by omega)] at hs;obtain rfl:T=T9:=hs;by_cases hb9:m<T.length
  ·obtain ⟨T2,hT2⟩:=qGe (T.take m);obtain rfl:R=T2:=by rw [<-hR,hT2]
   repeat' (first|refine az ?_ ?_|(refine aa 14 rfl ?_;refine sx (JL rfl rfl rfl rfl rfl rfl rfl (by omega) (by omega) hT2) ?_)|refine ay ?_|exact aA|refine ax fun hb=>?_|(refine cn (qf [(0,54)]) ?_;exact ak))
  ·obtain rfl:R=T:=by rw [<-hR];exact List.take_of_length_le (by omega)
   refine ao ?_
   (refine cn (qf [(0,1000)]) ?_;exact ak)
 obtain ⟨x,hx⟩:∃x,c.procs[i]? = some x:=⟨_,qGg hlt⟩;have ex:=qGs hx;rw [qDc hlt,ex] at hs;have hs:yf dead (c.procs.drop (i+1)) (pZ x dead T)=T9:=hs;obtain ⟨Y,hY⟩:=qGe (ie x);have kX:=IK d x hY;have hYl:=GB x;rw [hY] at hYl;obtain ⟨T8,hT8⟩:=qGe (pZ x dead T);rw [hT8] at hs;refine ao ?_;refine ab (fun y:Nat×List Opn=>y.1<=dead.length/\y.2.length<=40*i+5*y.1/\pZ x (dead.drop y.1) y.2=T8) (fun y=>bC [2,1000] [(1,.v (lD m)),(2,.c (.ptr 2 0)),(5,.c (.own 1000)),(7,.c (.sl eh dead)),(8,.i i),(9,.i y.1)] [(2,.box 50 (c.d d)),(1000,.arr 46 vS y.2)]) (fun y=>dead.length-y.1) (0,T) ⟨Nat.zero_le _,hTl,hT8⟩ aL ?_;clear hT8 hTl;rintro ⟨k,T⟩ ⟨hk,hTl,ht⟩;dsimp only at *
 by_cases hlk:k<dead.length
 case neg =>
  rw [qDn (by omega)] at ht;obtain rfl:T=T8:=ht;exact Rl
 obtain ⟨q,hq⟩:∃q,dead[k]? = some q:=⟨_,qGg hlk⟩;have eq:=qGs hq;rw [qDc hlk,eq] at ht;have ht:pZ x (dead.drop (k+1)) (bif decide (x.proc=q) then T++ie x else T)=T8:=ht;by_cases hp:x.proc=q
 ·rw [qDt hp,qCt,hY] at ht;refine ao ?_;refine ⟨(k+1,T++Y),⟨by dsimp only;omega,by dsimp only;rw [List.length_append];omega,ht⟩,by dsimp only;omega,?_⟩;exact a8 (qf [(1000,47)])
 ·rw [qDf hp,qCf] at ht;refine ao ?_;refine ⟨(k+1,T),⟨by dsimp only;omega,by dsimp only;omega,ht⟩,by dsimp only;omega,?_⟩;exact aL
theorem J4:∀{l:List Nd} {o:Option Pr},(∀x∈l,NB x=true)->(lV l).Pairwise fS->(∀p,o=some p->∀x∈l,fS p x.proc)->oo o l=true
 | [],_,_,_,_=>rfl
 | x :: l,o,h1,h2,h3=>by
  obtain ⟨k1,k2⟩:=List.pairwise_cons.1 (show (x.proc :: lV l).Pairwise fS from h2);rw [fd,qBa,qBa];refine ⟨⟨h1 x (by simp),?_⟩,J4 (fun y hy=>h1 y (by simp [hy])) k2 fun p hp y hy=>?_⟩
  ·cases o with
   | none=>rfl
   | some p=>exact qDt ((eX _ _).2 (h3 p rfl x (by simp)))
  ·cases hp
   exact k1 _ (List.mem_map.2 ⟨y,hy,rfl⟩)
theorem rv {c:Cs} (h:dA c=true):bb (wG c)=true:=by
 obtain ⟨hci,_⟩:=cf.1 h;have he:wG c=⟨c.queues,(c.procs.filter (·.waiting)).map nS⟩:=by unfold wG;rw [h];rfl
 rw [he];have h8:=hci.len;have hf:=List.length_filter_le (fun x:Pc=>x.waiting) c.procs;have hpr:lV ((c.procs.filter (·.waiting)).map nS)=(c.procs.filter (·.waiting)).map (·.proc):=by
  unfold lV;rw [List.map_map];rfl
 have hsub:∀x∈aR ⟨c.queues,(c.procs.filter (·.waiting)).map nS⟩,x∈c.procs.map (·.proc):=fun x hx=>by
  unfold aR at hx;rw [bf] at hx;rcases List.mem_append.1 hx with hx|hx
  ·exact hci.cov x hx
  ·rw [hpr] at hx;obtain ⟨y,hy,rfl⟩:=List.mem_map.1 hx;exact List.mem_map.2 ⟨y,(List.mem_filter.1 hy).1,rfl⟩
 have hlen:=el (im _) hsub;rw [List.length_map] at hlen;obtain ⟨t1,t2,_⟩:=cm hci.tv;unfold bb cM;rw [qDt t1,t2,qDt (show ((c.procs.filter (·.waiting)).map nS).length<=8 by rw [List.length_map];omega),qDt (show (aR _).length<=8 by omega)];rw [J4 (o:=none) ?_ ?_ (fun _ h=>by cases h)]
 ·rfl
 ·intro x hx;obtain ⟨y,hy,rfl⟩:=List.mem_map.1 hx;obtain ⟨hy1,hyw⟩:=List.mem_filter.1 hy;have hi:=hci.inv y hy1;have hq:=(hi.wat hyw).1.rq;unfold qW at hq;simp only [qBa] at hq;unfold NB nS;dsimp only;rw [hi.stat.vp,hq.1.1.1.1,qDt hi.stat.gen.1,qDt hi.stat.gen.2];rfl
 ·rw [hpr];exact List.Pairwise.sublist (List.Sublist.map _ List.filter_sublist) hci.asc
theorem yj {x:Pc} {o:Opn} (h:o∈ie x):iT o=true/\o.proc=x.proc/\∃k,o.lower=(je x ⟨x.led.entries.take k,[]⟩).map (fun n=>⟨n,aw (x.led.entries.take k) n⟩)/\(x.led.entries.take k).length=k/\
  ((∃s∈x.led.saves,o.label=s.label/\(bw x.led s.label).entries=x.led.entries.take k)\/(o.label = -1/\k=0)):=by
 unfold ie at h;cases hh:gm x.proc && decide (1<=x.cost) && decide (x.cost<=1000) && qT x.led && (!x.waiting || qW x.req) with
 | false=>rw [hh] at h;exact absurd h (by simp)
 | true =>
  rw [hh] at h;simp only [qBa] at hh;have hlg:=hh.1.2;have h:o∈bif (vU x).all iT then vU x else []:=h;cases hall:(vU x).all iT with
  | false=>rw [hall] at h;exact absurd h (by simp)
  | true =>
   rw [hall] at h;have h:o∈vU x:=h;refine ⟨List.all_eq_true.1 hall o h,?_⟩;unfold vU at h;rcases List.mem_append.1 h with h|h
   ·obtain ⟨s,hs,rfl⟩:=List.mem_map.1 h;have hs:s∈x.led.saves:=List.mem_reverse.1 hs;refine ⟨rfl,(bw x.led s.label).entries.length,?_⟩;have hu:(cd x.led s.label).2.2=0:=by
     obtain ⟨A,e,_⟩:=rk hlg hs;rw [e]
    have htk:=(D3 hu).2.2.2;refine ⟨?_,by rw [<-htk],.inl ⟨s,hs,rfl,htk⟩⟩;have hle:(x.led.entries.take (bw x.led s.label).entries.length).length=(bw x.led s.label).entries.length:=by rw [<-htk]
    unfold Pe Kd je;dsimp only;rw [hle,<-htk]
   ·obtain rfl:=List.mem_singleton.1 h;exact ⟨rfl,0,rfl,rfl,.inr ⟨rfl,rfl⟩⟩
theorem ry {x:Pc} {o:Opn}:∀{l:List Pr} {T:List Opn},o∈pZ x l T->o∈T\/(o∈ie x/\x.proc∈l)
 | [],_,h=>.inl h
 | q :: l,T,h=>by
  have h:o∈pZ x l (bif decide (x.proc=q) then T++ie x else T):=h;by_cases hq:x.proc=q
  ·rw [qDt hq,qCt] at h;rcases ry h with h|⟨h,h2⟩
   ·rcases List.mem_append.1 h with h|h
    ·exact .inl h
    ·exact .inr ⟨h,by simp [hq]⟩
   ·exact .inr ⟨h,by simp [h2]⟩
  ·rw [qDf hq,qCf] at h;rcases ry h with h|⟨h,h2⟩
   ·exact .inl h
   ·exact .inr ⟨h,by simp [h2]⟩
theorem yk {dead:List Pr} {o:Opn}:∀{l:List Pc} {T:List Opn},o∈yf dead l T->o∈T\/∃x∈l,o∈ie x/\x.proc∈dead
 | [],_,h=>.inl h
 | x :: l,T,h=>by
  rcases yk (l:=l) (T:=pZ x dead T) h with h|⟨y,hy,h⟩
  ·rcases ry h with h|h
   ·exact .inl h
   ·exact .inr ⟨x,by simp,h⟩
  ·exact .inr ⟨y,by simp [hy],h⟩
theorem B7 {c:Cs} {m:Nat} {o:Opn} (h:o∈nT c m):∃x∈c.procs,o∈ie x/\x.proc∈(il (wG c)).2:=by
 unfold nT at h;rcases yk (List.mem_of_mem_take h) with h|h
 ·exact absurd h (by simp)
 ·exact h
theorem Ov {s:Ws} {p:Pr} (h:bb s=true) (hp:p∈aR s):∀x∈aR (Gz s p),x∈aR s:=by
 have htv:=mC h;obtain ⟨htp,_⟩:=m9 htv p;have e:(bM s.queues p).1=s.queues.map (gz p):=by
  unfold bM;rw [htv];exact jd p s.queues
 rw [e] at htp;have hpt:aD (s.queues.map (tu p))=aD (s.queues.map (gz p)):=by unfold aD;rw [zx]
 intro x hx;unfold aR at hx ⊢;rw [bf] at hx ⊢;rcases List.mem_append.1 hx with hx|hx
 ·have hx:x∈aD (s.queues.map (tu p)):=hx;rw [hpt] at hx;rcases htp.sub x hx with e|e
  ·subst e;unfold aR at hp;rw [bf] at hp;exact List.mem_append.1 hp |> fun h=>List.mem_append.2 h
  ·exact List.mem_append.2 (.inl e)
 ·obtain ⟨n,hn,rfl⟩:=List.mem_map.1 hx;exact RA
theorem E3:∀(n:Nat) (s:Ws),RedOk n s->∀x∈aR (oH n s).2,x∈aR s
 | 0,_,_,_,h=>h
 | n+1,s,hr,x,h=>by
  cases hF:iX s with
  | nil=>rw [wA hF] at h;exact h
  | cons p l =>
   rw [rt hF] at h;exact Ov (pY hF).1 (pY hF).2 x (E3 n _ (hr.2 p l hF) x h)
theorem Mh {s:Ws}:∀x∈(il s).2,x∈aR s:=by
 intro x h;unfold il at h;cases hv:bb s with
 | false=>rw [hv] at h;exact absurd h (by simp)
 | true =>
  rw [hv] at h;exact E3 _ s (EU _ s hv (Nat.le_refl _)) x h
theorem E4 {c:Cs} (h:dA c=true) {m:Nat} {o:Opn} (ho:o∈nT c m):iT o=true/\bb (wG c)=true/\o.proc∈aR (wG c):=by
 obtain ⟨x,_,h1,h2⟩:=B7 ho;obtain ⟨f1,f2,_⟩:=yj h1;exact ⟨f1,rv h,by rw [f2];exact Mh _ h2⟩
end Go.Proofs.YtkkbopkbjacfmaaGreatDoor
