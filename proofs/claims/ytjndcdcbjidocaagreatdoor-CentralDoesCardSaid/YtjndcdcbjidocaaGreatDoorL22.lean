/- Part 22 of 33 of the proof of centralDoes_holds (no condition). -/
import Derived.Test.YtjndcdcbjidocaaGreatDoorL21
set_option linter.unusedVariables false
set_option linter.unusedSimpArgs false
set_option maxRecDepth 100000
set_option maxHeartbeats 64000000
namespace Go.Proofs.YtjndcdcbjidocaaGreatDoor
open Go.RowKit Go.Proofs.Tryz
theorem Lt (a b:List Tm):FSpec prog 123 [.one (.sl cw a),.one (.sl cw b)] [] [] (.b (decide (a=b))) []:=by
 refine aP func123 ?_;refine aM (fun c ρ a w hr=>bz (t:=0) hr rfl) (fun hl0=>?_);by_cases hl:a.length=b.length
 case neg =>
  have hne:a≠b:=fun e=>hl (by rw [e]);rw [decide_eq_false hne];repeat' (first|refine af ?_ ?_|refine ae ?_|exact ah|refine ab fun hb=>?_|exact aX|fail)
 repeat' (first|refine af ?_ ?_|refine ae ?_|exact ah|refine ab fun hb=>?_)
 refine ai (fun i=>i≤a.length∧((a=b)↔a.drop i=b.drop i)) (fun i=>bt [] [(0,.c (.sl cw a)),(1,.c (.sl cw b)),(12,.i a.length),(13,.i i)] []) (fun i=>a.length-i) 0 ⟨Nat.zero_le _,Iff.rfl⟩ aN ?_;rintro i ⟨hi,hs⟩;by_cases hlt:i<a.length
 ·have hlt2:i<b.length:=by omega
  rw [List.drop_eq_getElem_cons hlt,List.drop_eq_getElem_cons hlt2,List.cons.injEq] at hs;obtain ⟨x,hx⟩:∃x,a[i]? = some x:=⟨_,List.getElem?_eq_getElem hlt⟩;obtain ⟨y,hy⟩:∃y,b[i]? = some y:=⟨_,List.getElem?_eq_getElem hlt2⟩;have ex:a[i]=x:=(List.getElem?_eq_some_iff.1 hx).2;have ey:b[i]=y:=(List.getElem?_eq_some_iff.1 hy).2;rw [ex,ey] at hs;clear ex ey;by_cases he:x=y
  ·subst he;repeat' (first|refine af ?_ ?_|refine ae ?_|exact ah|(refine ab fun hb=>?_;first|(exact absurd rfl hb)|skip))
   refine ⟨i+1,⟨by omega,?_⟩,by omega,?_⟩
   ·rw [hs];simp
   ·exact aN
  ·rw [decide_eq_false (fun e=>he (hs.1 e).1)];repeat' (first|refine af ?_ ?_|refine ae ?_|exact ah|(refine ab fun hb=>?_;first|(exact absurd hb he)|skip)|exact aX|fail)
 ·rw [List.drop_eq_nil_of_le (by omega),List.drop_eq_nil_of_le (by omega)] at hs;rw [decide_eq_true (hs.2 rfl)];repeat' (first|refine af ?_ ?_|refine ae ?_|exact ah|refine ab fun hb=>?_|exact aX|fail)
theorem ER (d:Nat) (c:Cs) (x:Pc) (hV:du c.queues=true) (hg:oD x.led=true) {b:Bool} (hB:Gq c x=b):FSpec prog 54 [c.a d,x.a d] [] [] (.b b) []:=by
 refine aP func54 ?_;have hq8:=(bf hV).1;have kZ:=I9 d x.req rfl;have kC:=Eo c.queues x.proc (by omega) fun q hq=>cA (ct hV hq);have kO:=IR c.queues x.proc (by omega);have kH:=EP x.led (eP hg).1 rfl;have kE:=Lt (dH c.queues x.proc) (eH x.led);have he:decide (eH x.led=dH c.queues x.proc)=decide (dH c.queues x.proc=eH x.led):=decide_eq_decide.2 eq_comm;repeat' (first|refine af ?_ ?_|(refine aa 9 rfl ?_;first|(refine cB [] (kZ) ?_)|(refine cC [] (kC) ?_)|(refine cC [] (kO) ?_)|(refine cC [] (kH) ?_)|(refine cB [] (kE) ?_))|refine ae ?_|exact ah|refine ab fun hb=>?_)
 all_goals (refine d7 ?_;rw [←hB];simp [Gq, *];try (first|(intro _;refine List.eq_nil_of_length_eq_zero ?_;omega)|(intro _ h0;have:=congrArg List.length h0;simp only [List.length_nil] at this;omega)))
theorem ES (d:Nat) (c:Cs) (x:Pc) (hn:0≤c.now∧c.now≤1073741824) (hV:du c.queues=true) {b:Bool} (hB:Ad c x=b):FSpec prog 53 [c.a d,x.a d] [] [] (.b b) []:=by
 refine aP func53 ?_;have hq8:=(bf hV).1;unfold Ad at hB;have kC:=Hr c.queues (by omega);obtain ⟨rq,hrq⟩:∃rq,oG x.req=rq:=⟨_,rfl⟩;have kQ:=rU d x.req hrq;rw [hrq] at hB;cases rq with
 | false =>
  obtain rfl:b=false:=by rw [←hB];rfl
  repeat' (first|refine af ?_ ?_|refine aa 9 rfl (cB [] (kQ) ?_)|refine ae ?_|exact ah|refine ab fun hb=>?_|exact aX|fail)
 | true =>
  obtain ⟨e,he⟩:∃e,gw c.queues x.req.expr=e:=⟨_,rfl⟩;have kR:=xZ d c.queues x.req.expr hV he;rw [he] at hB;by_cases h0:e=0
  case neg =>
   obtain rfl:b=false:=by rw [←hB,decide_eq_false h0];rfl
   repeat' (first|refine af ?_ ?_|(refine aa 9 rfl ?_;first|(refine cB [] (kQ) ?_)|(refine cC [] (kC) ?_)|(refine cB [] (kR) ?_))|refine ae ?_|exact ah|(refine ab fun hb=>?_;first|(exact absurd hb h0)|skip)|exact aX|fail)
  subst h0;have hlim:0≤x.req.limit∧x.req.limit≤1000:=by
   unfold oG at hrq;simp only [Bool.and_eq_true,decide_eq_true_eq] at hrq;exact ⟨hrq.1.2,hrq.2⟩
  have hv:kv x.req.expr=true:=by unfold oG at hrq;simp only [Bool.and_eq_true] at hrq;exact hrq.1.1.1.1
  have hgl:(aZ c.queues x.proc x.req.expr).length≤1000:=by have:=cd x.req.expr;simp [aZ];omega
  obtain ⟨G,hG⟩:∃G,aZ c.queues x.proc x.req.expr=G:=⟨_,rfl⟩;have kGr:=od d c.queues x hG;rw [hG] at hgl hB;obtain ⟨ho,hho⟩:∃ho,dD x.req.expr G=ho:=⟨_,rfl⟩;have kHo:=Au d x.req.expr G hgl hho;rw [hho] at hB;have hnd:=(DM hv);have hT8:=cd x.req.expr;obtain ⟨T,hT⟩:∃T,cy x.req.expr=T:=⟨_,rfl⟩;rw [hT] at hB hnd hT8;have kAt:=jR d x.req.expr hT;by_cases hsn:0≤x.since∧x.since≤c.now
  case neg =>
   obtain rfl:b=false:=by rw [←hB];by_cases h:0≤x.since <;> simp [h] <;> omega
   by_cases h9:x.since<0
   ·repeat' (first|refine af ?_ ?_|(refine aa 9 rfl ?_;first|(refine cB [] (kQ) ?_)|(refine cC [] (kC) ?_)|(refine cB [] (kR) ?_))|refine ae ?_|exact ah|refine ab fun hb=>?_|exact aX|fail)
   ·repeat' (first|refine af ?_ ?_|(refine aa 9 rfl ?_;first|(refine cB [] (kQ) ?_)|(refine cC [] (kC) ?_)|(refine cB [] (kR) ?_))|refine ae ?_|exact ah|refine ab fun hb=>?_|exact aX|fail)
  obtain ⟨hs1,hs2⟩:=hsn;rw [decide_eq_true hs1,decide_eq_true hs2] at hB;simp only [decide_true,Bool.true_and] at hB;by_cases hli:x.req.limit=0∨c.now<x.since+x.req.limit
  case neg =>
   obtain rfl:b=false:=by rw [←hB,decide_eq_false (fun h=>hli (.inl h)),decide_eq_false (fun h=>hli (.inr h))];rfl
   rw [not_or] at hli;obtain ⟨hl1,hl2⟩:=hli;repeat' (first|refine af ?_ ?_|(refine aa 9 rfl ?_;first|(refine cB [] (kQ) ?_)|(refine cC [] (kC) ?_)|(refine cB [] (kR) ?_))|refine ae ?_|exact ah|(refine ab fun hb=>?_;first|(exact absurd hb hl1)|skip)|exact aX|fail)
  have hli':(decide (x.req.limit=0) || decide (c.now<x.since+x.req.limit))=true:=by simpa using hli
  rw [hli',Bool.true_and] at hB;cases ho with
  | true =>
   obtain rfl:b=false:=by rw [←hB];rfl
   by_cases hl2:x.req.limit=0
   ·repeat' (first|refine af ?_ ?_|(refine aa 9 rfl ?_;first|(refine cB [] (kQ) ?_)|(refine cC [] (kC) ?_)|(refine cB [] (kR) ?_)|(refine cC [] (kGr) ?_)|(refine cB [] (kHo) ?_))|refine ae ?_|exact ah|(refine ab fun hb=>?_;first|(exact absurd hl2 hb)|skip)|exact aX|fail)
   ·repeat' (first|refine af ?_ ?_|(refine aa 9 rfl ?_;first|(refine cB [] (kQ) ?_)|(refine cC [] (kC) ?_)|(refine cB [] (kR) ?_)|(refine cC [] (kGr) ?_)|(refine cB [] (kHo) ?_))|refine ae ?_|exact ah|(refine ab fun hb=>?_;first|(exact absurd hb hl2)|skip)|exact aX|fail)
  | false =>
   rw [Bool.not_false,Bool.true_and] at hB;obtain ⟨F,hF⟩:∃F:Qu→Bool,(fun q=>b7 q x T)=F:=⟨_,rfl⟩;have hF':∀q,b7 q x T=F q:=fun q=>congrFun hF q;have h88:∀q∈c.queues,eU q:=fun q hq=>cA (ct hV hq);rw [hF] at hB;by_cases hl2:x.req.limit=0
   case' pos =>
    repeat' (first|refine af ?_ ?_|(refine aa 9 rfl ?_;first|(refine cB [] (kQ) ?_)|(refine cC [] (kC) ?_)|(refine cB [] (kR) ?_)|(refine cC [] (kGr) ?_)|(refine cB [] (kHo) ?_)|(refine cC [] (kAt) ?_))|refine ae ?_|exact ah|(refine ab fun hb=>?_;first|(exact absurd hl2 hb)|skip))
   case' neg =>
    repeat' (first|refine af ?_ ?_|(refine aa 9 rfl ?_;first|(refine cB [] (kQ) ?_)|(refine cC [] (kC) ?_)|(refine cB [] (kR) ?_)|(refine cC [] (kGr) ?_)|(refine cB [] (kHo) ?_)|(refine cC [] (kAt) ?_))|refine ae ?_|exact ah|(refine ab fun hb=>?_;first|(exact absurd hb hl2)|skip))
   all_goals
    refine ai (fun i=>i≤c.queues.length∧(c.queues.all F=(c.queues.drop i).all F)) (fun i=>bt [3] [(3,.c (.ptr 3 0)),(6,.c (.sl cw T)),(59,.c (.sl dC c.queues)),(60,.i c.queues.length),(61,.i i)] [(3,.box 63 (x.d d))]) (fun i=>c.queues.length-i) 0 ⟨Nat.zero_le _,rfl⟩ aN ?_;clear kAt kHo kGr kR kC kQ hli' hli hs1 hs2 hlim hgl hho hG;rintro i ⟨hi,hs⟩;by_cases hlt:i<c.queues.length
    ·obtain ⟨q,hq⟩:∃q,c.queues[i]? = some q:=⟨_,List.getElem?_eq_getElem hlt⟩;have eq:c.queues[i]=q:=(List.getElem?_eq_some_iff.1 hq).2;obtain ⟨_,j2,j3⟩:=h88 q (eq▸List.getElem_mem hlt);rw [List.drop_eq_getElem_cons hlt,eq,List.all_cons] at hs;obtain ⟨f,hff⟩:∃f,F q=f:=⟨_,rfl⟩;have kP:=GR d q x T hnd (by omega) j2 j3 ((hF' q).trans hff);rw [hff] at hs;cases f with
     | false =>
      obtain rfl:b=false:=by rw [←hB,hs];rfl
      repeat' (first|refine af ?_ ?_|refine aa 9 rfl (cB [] (kP) ?_)|refine ae ?_|exact ah|refine ab fun hb=>?_|exact aX|fail)
     | true =>
      repeat' (first|refine af ?_ ?_|refine aa 9 rfl (cB [] (kP) ?_)|refine ae ?_|exact ah|refine ab fun hb=>?_)
      refine ⟨i+1,⟨by omega,?_⟩,by omega,?_⟩
      ·rw [hs,Bool.true_and]
      ·exact aN
    ·rw [List.drop_eq_nil_of_le (by omega),List.all_nil] at hs;obtain rfl:b=true:=by rw [←hB,hs]
     repeat' (first|refine af ?_ ?_|refine ae ?_|exact ah|refine ab fun hb=>?_|exact aX|fail)
theorem Jd (d:Nat) (l:List Pc) (p:Pr) {z:Int} (hz:db p 0 l=z):FSpec prog 57 [.one (.sl (eI d) l),.one (.clo 58 [9])] [jH 9 p] [] (.i z) [(9,some (jH 9 p).2)]:=by
 refine aP func57 ?_;refine aM (fun c ρ a w hr=>bz (t:=0) hr rfl) (fun hl0=>?_);repeat' (first|refine af ?_ ?_|refine ae ?_|exact ah|refine ab fun hb=>?_)
 refine ai (fun i=>i≤l.length∧db p i (l.drop i)=z) (fun i=>bt [9] [(0,.c (.sl (eI d) l)),(1,.c (.clo 58 [9])),(7,.i l.length),(8,.i i)] [jH 9 p]) (fun i=>l.length-i) 0 ⟨Nat.zero_le _,hz⟩ aN ?_;rintro i ⟨hi,hs⟩;by_cases hlt:i<l.length
 ·obtain ⟨x,hx⟩:∃x,l[i]=x:=⟨_,rfl⟩;have hgx:l[i]? = some x:=by rw [List.getElem?_eq_getElem hlt,hx]
  rw [List.drop_eq_getElem_cons hlt,hx] at hs;have hs:(bif decide (x.proc=p) then (i:Int) else db p (i+1) (l.drop (i+1)))=z:=hs;obtain ⟨b,hb1⟩:∃b,decide (x.proc=p)=b:=⟨_,rfl⟩;have kS:=Hs d x p hb1;rw [hb1] at hs;cases b with
  | true =>
   obtain rfl:(i:Int)=z:=hs;repeat' (first|refine af ?_ ?_|(refine aa 9 rfl ?_;refine mt 1 [9] (qf [(9,9)]) (kS) ?_)|refine ae ?_|exact ah|refine ab fun hb=>?_|exact aX|fail)
  | false =>
   repeat' (first|refine af ?_ ?_|(refine aa 9 rfl ?_;refine mt 1 [9] (qf [(9,9)]) (kS) ?_)|refine ae ?_|exact ah|refine ab fun hb=>?_)
   refine ⟨i+1,⟨by omega,hs⟩,by omega,?_⟩;exact aN
 ·rw [List.drop_eq_nil_of_le (by omega)] at hs;obtain rfl : -1=z:=hs;repeat' (first|refine af ?_ ?_|refine ae ?_|exact ah|refine ab fun hb=>?_|exact aX|fail)
theorem vL (d:Nat) (l:List Pc) (p:Pr) {z:Int} (hz:db p 0 l=z):FSpec prog 27 [.one (.sl (eI d) l),p.a] [] [] (.i z) []:=by
 refine aP func27 ?_;have kF:=Jd d l p hz;repeat' (first|refine af ?_ ?_|(refine aa 0 rfl ?_;refine sx (cS (ks:=[3]) rfl rfl) ?_)|refine aa 9 rfl (cH (qf [(9,3)]) (kF) ?_)|refine ae ?_|exact ah|refine ab fun hb=>?_|exact aX|fail)
theorem B5 (d:Nat) (c:Cs) (x:Pc) (hn:0≤c.now∧c.now≤1073741824) (hV:du c.queues=true) {b:Bool} (hB:mx c x=b):FSpec prog 25 [c.a d,x.a d] [] [] (.b b) []:=by
 refine aP func25 ?_;have hq8:=(bf hV).1;rw [xG] at hB;have kV:=gj x.proc;have kG:=dS x.led;obtain ⟨v,hv⟩:∃v,jl x.proc=v:=⟨_,rfl⟩;rw [hv] at kV;cases v with
 | false =>
  obtain rfl:b=false:=by rw [←hB,hv];rfl
  repeat' (first|refine af ?_ ?_|refine aa 9 rfl (cB [] (kV) ?_)|refine ae ?_|exact ah|refine ab fun hb=>?_|exact aX|fail)
 | true =>
  by_cases h1:1≤x.cost∧x.cost≤1000
  case neg =>
   obtain rfl:b=false:=by rw [←hB,show decide (1≤x.cost) = !decide (x.cost<1) by by_cases h:x.cost<1 <;> simp [h] <;> omega];by_cases h:x.cost<1 <;> simp [h] <;> omega
   by_cases h2:x.cost<1
   ·repeat' (first|refine af ?_ ?_|refine aa 9 rfl (cB [] (kV) ?_)|refine ae ?_|exact ah|refine ab fun hb=>?_|exact aX|fail)
   ·repeat' (first|refine af ?_ ?_|refine aa 9 rfl (cB [] (kV) ?_)|refine ae ?_|exact ah|refine ab fun hb=>?_|exact aX|fail)
  obtain ⟨h1,h2⟩:=h1;rw [hv,decide_eq_true h1,decide_eq_true h2] at hB;by_cases h3:0≤x.gen∧x.gen≤1073741824
  case neg =>
   obtain rfl:b=false:=by rw [←hB];by_cases h:0≤x.gen <;> simp [h] <;> omega
   by_cases h4:x.gen<0
   ·repeat' (first|refine af ?_ ?_|refine aa 9 rfl (cB [] (kV) ?_)|refine ae ?_|exact ah|refine ab fun hb=>?_|exact aX|fail)
   ·repeat' (first|refine af ?_ ?_|refine aa 9 rfl (cB [] (kV) ?_)|refine ae ?_|exact ah|refine ab fun hb=>?_|exact aX|fail)
  obtain ⟨h3,h4⟩:=h3;rw [decide_eq_true h3,decide_eq_true h4] at hB;obtain ⟨g,hg⟩:∃g,oD x.led=g:=⟨_,rfl⟩;rw [hg] at kG hB;cases g with
  | false =>
   obtain rfl:b=false:=by rw [←hB];rfl
   repeat' (first|refine af ?_ ?_|(refine aa 9 rfl ?_;first|(refine cB [] (kV) ?_)|(refine cB [] (kG) ?_))|refine ae ?_|exact ah|refine ab fun hb=>?_|exact aX|fail)
  | true =>
   simp only [Bool.true_and] at hB;obtain ⟨L,hL⟩:∃L,eH x.led=L:=⟨_,rfl⟩;have kH:=EP x.led (eP hg).1 hL;have hL8:L.length≤8:=by
    rw [←hL];unfold eH;exact Nat.le_trans (List.length_filter_le _ _) (by rw [List.length_map];exact (fm.1 hg).nms)
   rw [hL] at hB;repeat' (first|refine af ?_ ?_|(refine aa 9 rfl ?_;first|(refine cB [] (kV) ?_)|(refine cB [] (kG) ?_)|(refine cC [] (kH) ?_))|refine ae ?_|exact ah|refine ab fun hb=>?_)
   refine ai (fun i=>i≤L.length∧(L.all (BH c)=(L.drop i).all (BH c))) (fun i=>bt [2,3] [(2,.c (.ptr 2 0)),(3,.c (.ptr 3 0)),(38,.c (.sl cw L)),(39,.i L.length),(40,.i i)] [(2,.box 26 (c.d d)),(3,.box 63 (x.d d))]) (fun i=>L.length-i) 0 ⟨Nat.zero_le _,rfl⟩ aN ?_;rintro i ⟨hi,hs⟩;by_cases hlt:i<L.length
   ·obtain ⟨a,ha⟩:∃a,L[i]? = some a:=⟨_,List.getElem?_eq_getElem hlt⟩;have ea:L[i]=a:=(List.getElem?_eq_some_iff.1 ha).2;rw [List.drop_eq_getElem_cons hlt,ea,List.all_cons] at hs;by_cases hk:bk a.name 0 c.queues<0
    ·have hf:BH c a=false:=by unfold BH aW;rw [decide_eq_false (by omega)];rfl
     obtain rfl:b=false:=by rw [←hB,hs,hf];rfl
     have kF:=ir c.queues a.name rfl;repeat' (first|refine af ?_ ?_|refine aa 9 rfl (cB [] (kF) ?_)|refine ae ?_|exact ah|refine ab fun hb=>?_|exact aX|fail)
    ·obtain ⟨j,hj,hF,hqa,hx⟩:=d8 hk;have kF:=ir c.queues a.name hF;obtain ⟨q,hq⟩:∃q,c.queues[j]? = some q:=⟨_,List.getElem?_eq_getElem hj⟩;have eq:c.queues[j]=q:=(List.getElem?_eq_some_iff.1 hq).2;have hf:BH c a=aF q.res a.am:=by
      unfold BH aW be;rw [hqa,eq,decide_eq_true (by omega)];rfl
     have kR:=eo q.res a.am;obtain ⟨f,hff⟩:∃f,aF q.res a.am=f:=⟨_,rfl⟩;rw [hff] at kR hf;rw [hf] at hs;clear hF hk hqa hx;cases f with
     | false =>
      obtain rfl:b=false:=by rw [←hB,hs];rfl
      repeat' (first|refine af ?_ ?_|(refine aa 9 rfl ?_;first|(refine cB [] (kF) ?_)|(refine cB [] (kR) ?_))|refine ae ?_|exact ah|refine ab fun hb=>?_|exact aX|fail)
     | true =>
      repeat' (first|refine af ?_ ?_|(refine aa 9 rfl ?_;first|(refine cB [] (kF) ?_)|(refine cB [] (kR) ?_))|refine ae ?_|exact ah|refine ab fun hb=>?_)
      refine ⟨i+1,⟨by omega,?_⟩,by omega,?_⟩
      ·rw [hs,Bool.true_and]
      ·exact aN
   rw [List.drop_eq_nil_of_le (by omega),List.all_nil] at hs;rw [hs,Bool.true_and] at hB;clear hs kH kG kV;cases hw:x.waiting with
   | false =>
    rw [hw,Bool.not_false,cond_true] at hB;have kR:=ER d c x hV hg hB;repeat' (first|refine af ?_ ?_|refine aa 9 rfl (cB [] (kR) ?_)|refine ae ?_|exact ah|(refine ab fun hb=>?_;first|(cases hw.symm.trans hb;done)|skip)|exact aX|fail)
   | true =>
    rw [hw,Bool.not_true,cond_false] at hB;have kW:=ES d c x hn hV hB;repeat' (first|refine af ?_ ?_|refine aa 9 rfl (cB [] (kW) ?_)|refine ae ?_|exact ah|(refine ab fun hb=>?_;first|(cases hw.symm.trans hb;done)|skip)|exact aX|fail)
theorem vM (d:Nat) (c:Cs) {b:Bool} (hB:gx c=b):FSpec prog 9 [c.a d] [] [] (.b b) []:=by
 refine aP func9 ?_;unfold gx at hB;have kV:=qc c.queues;obtain ⟨v,hv⟩:∃v,du c.queues=v:=⟨_,rfl⟩;rw [hv] at kV;by_cases h1:0≤c.now∧c.now≤1073741824
 case neg =>
  obtain rfl:b=false:=by rw [←hB];by_cases h:0≤c.now <;> simp [h] <;> omega
  by_cases h2:c.now<0
  ·repeat' (first|refine af ?_ ?_|refine ae ?_|exact ah|refine ab fun hb=>?_|exact aX|fail)
  ·repeat' (first|refine af ?_ ?_|refine ae ?_|exact ah|refine ab fun hb=>?_|exact aX|fail)
 have hn:=h1;obtain ⟨h1,h2⟩:=h1;rw [hv,decide_eq_true h1,decide_eq_true h2] at hB;cases v with
 | false =>
  obtain rfl:b=false:=by rw [←hB];rfl
  repeat' (first|refine af ?_ ?_|refine aa 9 rfl (cB [] (kV) ?_)|refine ae ?_|exact ah|refine ab fun hb=>?_|exact aX|fail)
 | true =>
  have hp8:=bf hv;by_cases h8:c.procs.length≤8
  case neg =>
   obtain rfl:b=false:=by rw [←hB,decide_eq_false h8];rfl
   repeat' (first|refine af ?_ ?_|refine aa 9 rfl (cB [] (kV) ?_)|refine ae ?_|exact ah|refine ab fun hb=>?_|exact aX|fail)
  rw [decide_eq_true h8] at hB;simp only [Bool.true_and] at hB;obtain ⟨L,hL⟩:∃L,aC c.queues=L:=⟨_,rfl⟩;have kP:=vz c.queues (by omega) (fun q hq=>cA (ct hv hq));have hLl:L.length≤8:=by rw [←hL];exact hp8.2.2
  rw [hL] at kP hB;obtain ⟨G,hG⟩:∃G:Pr→Bool,(fun p=>decide (0≤db p 0 c.procs))=G:=⟨_,rfl⟩;have hG':∀p,decide (0≤db p 0 c.procs)=G p:=fun p=>congrFun hG p;rw [hG,Bool.and_comm] at hB;obtain ⟨T,hT⟩:∃T,L.all G=T:=⟨_,rfl⟩;rw [hT] at hB;repeat' (first|refine af ?_ ?_|refine aa 9 rfl (cB [] (kV) ?_)|refine ae ?_|exact ah|refine ab fun hb=>?_)
  refine ai (fun y:Nat×Option Pr=>y.1≤c.procs.length∧(y.1=0∧y.2=none∨0<y.1∧∃z,c.procs[((y.1:Int)-1).toNat]? = some z∧y.2=some z.proc)∧(uZ c y.2 (c.procs.drop y.1) && T)=b) (fun y=>bt [1] [(1,.c (.ptr 1 0)),(28,.c (.sl (eI d) c.procs)),(29,.i c.procs.length),(30,.i y.1)] [(1,.box 26 (c.d d))]) (fun y=>c.procs.length-y.1) (0,none) ⟨Nat.zero_le _,.inl ⟨rfl,rfl⟩,hB⟩ aN ?_;clear hB;rintro ⟨i,o⟩ ⟨hi,ho,hs⟩;dsimp only at *
  by_cases hlt:i<c.procs.length
  ·obtain ⟨x,hx⟩:∃x,c.procs[i]? = some x:=⟨_,List.getElem?_eq_getElem hlt⟩;have ex:c.procs[i]=x:=(List.getElem?_eq_some_iff.1 hx).2;rw [List.drop_eq_getElem_cons hlt,ex,uo] at hs;obtain ⟨pb,hpb⟩:∃pb,mx c x=pb:=⟨_,rfl⟩;have kX:=B5 d c x hn hv hpb;rw [hpb] at hs;clear kP;rcases ho with ⟨h0,rfl⟩|⟨h0,z,hz,rfl⟩
   ·rw [show EZ none x.proc=true from rfl,Bool.and_true] at hs;cases pb with
    | false =>
     obtain rfl:b=false:=hs.symm;repeat' (first|refine af ?_ ?_|refine aa 9 rfl (cB [] (kX) ?_)|refine ae ?_|exact ah|(refine ab fun hb=>?_;first|(exfalso;omega)|skip)|exact aX|fail)
    | true =>
     rw [Bool.true_and] at hs;repeat' (first|refine af ?_ ?_|refine aa 9 rfl (cB [] (kX) ?_)|refine ae ?_|exact ah|(refine ab fun hb=>?_;first|(exfalso;omega)|skip))
     refine ⟨(i+1,some x.proc),⟨by dsimp only;omega,.inr ⟨by dsimp only;omega,x,?_,rfl⟩,hs⟩,by dsimp only;omega,?_⟩
     ·dsimp only;rw [←hx];congr 1
      omega
     ·exact aN
   ·have kC:=jf z.proc x.proc;obtain ⟨e,he⟩:∃e,bE z.proc x.proc=e:=⟨_,rfl⟩;rw [show EZ (some z.proc) x.proc=decide (bE z.proc x.proc<0) from rfl,he] at hs;rw [he] at kC;by_cases hneg:e<0
    case neg =>
     obtain rfl:b=false:=by rw [←hs,decide_eq_false hneg,Bool.and_false];rfl
     repeat' (first|refine af ?_ ?_|refine aa 9 rfl (cB [] (kC) ?_)|refine ae ?_|exact ah|(refine ab fun hb=>?_;first|(exfalso;omega)|skip)|exact aX|fail)
    rw [decide_eq_true hneg,Bool.and_true] at hs;cases pb with
    | false =>
     obtain rfl:b=false:=hs.symm;repeat' (first|refine af ?_ ?_|(refine aa 9 rfl ?_;first|(refine cB [] (kC) ?_)|(refine cB [] (kX) ?_))|refine ae ?_|exact ah|(refine ab fun hb=>?_;first|(exfalso;omega)|skip)|exact aX|fail)
    | true =>
     rw [Bool.true_and] at hs;repeat' (first|refine af ?_ ?_|(refine aa 9 rfl ?_;first|(refine cB [] (kC) ?_)|(refine cB [] (kX) ?_))|refine ae ?_|exact ah|(refine ab fun hb=>?_;first|(exfalso;omega)|skip))
     refine ⟨(i+1,some x.proc),⟨by dsimp only;omega,.inr ⟨by dsimp only;omega,x,?_,rfl⟩,hs⟩,by dsimp only;omega,?_⟩
     ·dsimp only;rw [←hx];congr 1
      omega
     ·exact aN
  rw [List.drop_eq_nil_of_le (by omega)] at hs;have hs:T=b:=by rw [←hs];rfl
  rw [←hT] at hs;clear hT ho;repeat' (first|refine af ?_ ?_|refine aa 9 rfl (cC [] (kP) ?_)|refine ae ?_|exact ah|refine ab fun hb=>?_)
  refine ai (fun i=>i≤L.length∧(L.drop i).all G=b) (fun i=>bt [1] [(1,.c (.ptr 1 0)),(57,.c (.sl fK L)),(58,.i L.length),(59,.i i)] [(1,.box 26 (c.d d))]) (fun i=>L.length-i) 0 ⟨Nat.zero_le _,hs⟩ aN ?_;clear hs kP hi hlt;rintro i ⟨hi,hs⟩;by_cases hlt:i<L.length
  ·obtain ⟨p,hp⟩:∃p,L[i]? = some p:=⟨_,List.getElem?_eq_getElem hlt⟩;have ep:L[i]=p:=(List.getElem?_eq_some_iff.1 hp).2;rw [List.drop_eq_getElem_cons hlt,ep,List.all_cons] at hs;obtain ⟨ix,hix⟩:∃ix,db p 0 c.procs=ix:=⟨_,rfl⟩;have kI:=vL d c.procs p hix;have hgp:=hG' p;rw [hix] at hgp;by_cases h0:0≤ix
   ·rw [decide_eq_true h0] at hgp;rw [←hgp,Bool.true_and] at hs;repeat' (first|refine af ?_ ?_|refine aa 9 rfl (cB [] (kI) ?_)|refine ae ?_|exact ah|(refine ab fun hb=>?_;first|(exfalso;omega)|skip))
    refine ⟨i+1,⟨by omega,hs⟩,by omega,?_⟩;exact aN
   ·rw [decide_eq_false h0] at hgp;obtain rfl:b=false:=by rw [←hs,←hgp];rfl
    repeat' (first|refine af ?_ ?_|refine aa 9 rfl (cB [] (kI) ?_)|refine ae ?_|exact ah|(refine ab fun hb=>?_;first|(exfalso;omega)|skip)|exact aX|fail)
  ·rw [List.drop_eq_nil_of_le (by omega)] at hs;obtain rfl:b=true:=hs.symm;repeat' (first|refine af ?_ ?_|refine ae ?_|exact ah|refine ab fun hb=>?_|exact aX|fail)
def LK (d:Nat) (R:Cs×List Ev×Int):TV:=.tup [R.1.a d,.one (.sl fG R.2.1),.one (.sc (.int .i64 R.2.2))]
theorem LW (d:Nat) (c:Cs) (k:Cm) {R:Cs×List Ev×Int} (hR:nN c k=R):FSpec prog 13 [c.a d,k.a d] [] [] (LK d R) []:=by
 refine aP func13 ?_;unfold nN at hR;obtain ⟨v,hv⟩:∃v,gx c=v:=⟨_,rfl⟩;have kV:=GT d c hv;rw [hv] at hR;cases v with
 | false =>
  obtain rfl:R=(Jq,[],2):=hR.symm;repeat' (first|refine af ?_ ?_|refine aa 9 rfl (cB [] (kV) ?_)|refine ae ?_|exact ah|refine ab fun hb=>?_|(refine cX (qf []) ?_;exact aj))
 | true =>
  rw [Bool.not_true,cond_false] at hR;obtain ⟨hci,hun⟩:=fJ.1 hv;obtain ⟨Z,hZ⟩:∃Z,zK ⟨c,[]⟩ k=Z:=⟨_,rfl⟩;have kD:=K9 d ⟨c,[]⟩ k hci (fun x hx=>mh (hun x hx)) (by simp) hZ;have kC:=Jc d c (by have:=(bf hci.tv).1;omega) (by have:=hci.len;omega);rw [hZ] at hR;repeat' (first|refine af ?_ ?_|(refine aa 9 rfl ?_;first|(refine cB [] (kV) ?_)|(refine cH (qf [(1,1001),(2,1002)]) (kC) ?_))|((fail_if_success (first|refine my 4 ?_|refine mz 4 ?_));refine ae ?_)|exact ah|refine ab fun hb=>?_)
  refine il 1001 rfl ?_;refine Dn 16 2 1002 rfl rfl rfl rfl ?_;refine lU 16 3 1003 67 fG rfl rfl rfl rfl ?_;by_cases h0:Z.2=0
  ·rw [decide_eq_true h0] at hR;obtain rfl:R=(Z.1.c,Z.1.ev,0):=hR.symm;repeat' (first|refine af ?_ ?_|refine aa 9 rfl (cH (qf [(0,16),(1,1002),(2,1003),(3,1004),(4,1005)]) (kD) ?_)|refine ae ?_|exact ah|refine ab fun hb=>?_|(refine cX (qf []) ?_;exact aj))
  ·rw [decide_eq_false h0] at hR;obtain rfl:R=(Jq,[],Z.2):=hR.symm;repeat' (first|refine af ?_ ?_|refine aa 9 rfl (cH (qf [(0,16),(1,1002),(2,1003),(3,1004),(4,1005)]) (kD) ?_)|refine ae ?_|exact ah|refine ab fun hb=>?_|(refine cX (qf []) ?_;exact aj))
theorem LL {c:Cs} (h:CI c):LJ c:=by
 have h8:=(bf h.tv).1;have hl:=h.len;refine ⟨by omega,by omega,fun q hq=>?_,fun x hx=>?_⟩
 ·obtain ⟨q1,q2,q3⟩:=cA (ct h.tv hq);exact ⟨by omega,by omega,by omega⟩
 ·have hinv:=h.inv x hx;have hl:=eP (fm.2 hinv.stat.led);refine ⟨by omega,by omega,?_⟩;cases hw:x.waiting with
  | false=>rw [(hinv.run hw).1];decide
  | true =>
   have hq:=(hinv.wat hw).1.rq;have hv:kv x.req.expr=true:=by unfold oG at hq;simp only [Bool.and_eq_true] at hq;exact hq.1.1.1.1
   simp [kv,x9] at hv;omega
theorem Kv (d:Nat) (c:Cs) (k:Cm) {R:Cs×List Ev×Int} (hR:nN c k=R):FSpec prog 12 [c.a d,k.a d] [] [] (LK d R) []:=by
 refine aP func12 ?_;unfold nN at hR;obtain ⟨v,hv⟩:∃v,gx c=v:=⟨_,rfl⟩;have kV:=vM d c hv;rw [hv] at hR;cases v with
 | false =>
  obtain rfl:(Jq,[],2)=R:=hR;repeat' (first|refine af ?_ ?_|refine aa 9 rfl (cB [] (kV) ?_)|refine ae ?_|exact ah|refine ab fun hb=>?_|(refine cX (qf []) ?_;exact aj))
 | true =>
  rw [Bool.not_true,cond_false] at hR;obtain ⟨hci,hun⟩:=fJ.1 hv;obtain ⟨Z,hZ⟩:∃Z,zK ⟨c,[]⟩ k=Z:=⟨_,rfl⟩;have kD:=I8 d ⟨c,[]⟩ k hci (fun x hx=>mh (hun x hx)) (by simp) hZ;have kC:=GP d c (LL hci);rw [hZ] at hR;repeat' (first|refine af ?_ ?_|(refine aa 9 rfl ?_;first|(refine cB [] (kV) ?_)|(refine cH (qf [(1,1001)]) (kC) ?_))|((fail_if_success (first|refine my 4 ?_|refine mz 4 ?_));refine ae ?_)|exact ah|refine ab fun hb=>?_)
  refine lU 16 3 1003 67 fG rfl rfl rfl rfl ?_;by_cases h0:Z.2=0
  ·rw [decide_eq_true h0] at hR;obtain rfl:R=(Z.1.c,Z.1.ev,0):=hR.symm;repeat' (first|refine af ?_ ?_|refine aa 9 rfl (cH (qf [(0,16),(1,1001),(2,1003),(3,1004),(4,1005)]) (kD) ?_)|(refine aa 21 rfl ?_;first|refine sx (ay rfl rfl) ?_|refine sx (aO rfl rfl) ?_)|refine ae ?_|exact ah|(refine ab fun hb=>?_;first|(exact absurd h0 hb)|skip)|(refine cX (qf []) ?_;exact aj))
  ·rw [decide_eq_false h0] at hR;obtain rfl:R=(Jq,[],Z.2):=hR.symm;repeat' (first|refine af ?_ ?_|refine aa 9 rfl (cH (qf [(0,16),(1,1001),(2,1003),(3,1004),(4,1005)]) (kD) ?_)|(refine aa 21 rfl ?_;first|refine sx (ay rfl rfl) ?_|refine sx (aO rfl rfl) ?_)|refine ae ?_|exact ah|(refine ab fun hb=>?_;first|(exact absurd hb h0)|skip)|(refine cX (qf []) ?_;exact aj))
theorem Kw (d:Nat) (c:Cs) (p:Pr) {i:Nat} {x:Pc} (hi:db p 0 c.procs=i) (hx:c.procs[i]? = some x) (h1:x.led.entries.length≤100000) (h2:x.led.saves.length≤100000) (h3:x.req.expr.cnt≤1000):FSpec prog 19 [c.a d,p.a] [] [] (.tup [x.a d,.one (.sc (.bool true))]) []:=by
 refine aP func19 ?_;have hlt:=(List.getElem?_eq_some_iff.1 hx).1;have kI:=vL d c.procs p hi;have kC:=AB d x h1 h2 h3;repeat' (first|refine af ?_ ?_|(refine aa 9 rfl ?_;first|(refine cB [] (kI) ?_)|(refine cC [] (kC) ?_))|refine ae ?_|exact ah|(refine ab fun hb=>?_;first|(exfalso;omega)|skip)|(refine fe (qf []) ?_;exact aj))
theorem B6 (d:Nat) (c:Cs) (p:Pr) {i:Nat} {x:Pc} (hi:db p 0 c.procs=i) (hx:c.procs[i]? = some x) (hw:x.waiting=true) (hv:gx c=true) {B:List Bool} (hB:aZ c.queues x.proc x.req.expr=B):FSpec prog 20 [c.a d,p.a] [] [] (.c (.sl cg B)) []:=by
 refine aP func20 ?_;have hlt:=(List.getElem?_eq_some_iff.1 hx).1;have kI:=vL d c.procs p hi;have kV:=vM d c hv;have kG:=od d c.queues x hB;repeat' (first|refine af ?_ ?_|(refine aa 9 rfl ?_;first|(refine cB [] (kI) ?_)|(refine cB [] (kV) ?_)|(refine cC [] (kG) ?_))|refine ae ?_|exact ah|(refine ab fun hb=>?_;first|(cases hw.symm.trans hb;done)|(exfalso;omega)|skip)|exact aX|fail)
def Lu:Rs:=⟨nA,1,1,0⟩
def ET:Cs:=⟨0,[xQ Lu],[]⟩
def E7 (p:Pr):Cm:=⟨1,p,Rq.zero,⟨#[]⟩,5⟩
def EU (p:Pr):Cm:=⟨2,p,⟨.mk 0 ⟨nA,⟨5,0⟩⟩ [],0,0⟩,⟨#[]⟩,0⟩
def zo:Cs:=(nN ET (E7 (cm 0))).1
def x8:Cs:=(nN zo (E7 (cm 1))).1
def zp:Cs:=(nN x8 (EU (cm 0))).1
def o8:Cs:=(nN zp (EU (cm 1))).1
theorem LX:(nN ET (E7 (cm 0))).2.2=0:=by decide +kernel
theorem LY:(nN zo (E7 (cm 1))).2.2=0:=by decide +kernel
theorem LZ:(nN x8 (EU (cm 0))).2.2=0:=by decide +kernel
theorem Lv:(nN x8 (EU (cm 0))).2.1.map (·.kind)=[1,2]:=by decide +kernel
theorem LM:(nN zp (EU (cm 1))).2.2=0:=by decide +kernel
theorem LN:db (cm 1) 0 o8.procs=1:=by decide +kernel
theorem L0:(o8.procs[1]?).map (fun x=>(x.waiting,(aZ o8.queues x.proc x.req.expr).length))=some (true,1):=by decide +kernel
theorem Lw:gx o8=true:=(IE LM).2
theorem qd {c:Cs} {k:Cm} (h:(nN c k).2.2=0):nN c k=((nN c k).1,(nN c k).2.1,0):=by rw [←h]
theorem Je {α:Type} {E:El α} [J:Dp E] {w:World} {F F':Nat→Prop} {ρ ρ':Nat→Value} {k n:Nat} {e:TypeId} {m:List α} {cs:List D} (hb:(Box.box e cs).rep w F ρ (ρ k)) (hm:m.flatMap J.deep=cs) (hF:∀b,F b→F' b) (hF':∀g,kb (ρ k)=some g→F' g) (hn:m.length=n∧n≤maxLen) {v:Value} (hv:(D.slb k n).rep w F ρ v):(D.sl E m).rep w F' ρ' v:=by
 subst hm;obtain ⟨g,hg,rfl⟩:=hv;obtain ⟨g',vs,e1,h3,h4,_⟩:=hb;rw [hg] at e1;injection e1 with e1;injection e1 with e1;injection e1 with e1;subst e1;exact ⟨_,_,by rw [hn.1],⟨Nat.le_of_eq hn.1,hn.2⟩,vs,(eY h4).same (fun _ _=>rfl) hF,fun _=>⟨g,0,rfl,hF' g (by rw [hg];rfl),fun j u hu=>by rw [Nat.zero_add];exact h3.cellx j (by simpa using hu)⟩⟩
theorem FSpec.lit {P:Program} {f:FuncId} {α:Type} {E:El α} [J:Dp E] {l:List α} {n:Nat} {e:TypeId} {cs:List D} {res:TV} (h:FSpec P f [.one (.sl E l)] [] [] res []) (hl:l.flatMap J.deep=cs) (hn:l.length=n) (hm:n≤maxLen):FSpec P f [.one (.slb 0 n)] [(0,.box e cs)] [] res [(0,none)]:=by
 refine ⟨h.en,fun q c st ρ a w vs hr hq hargs hin hfree=>?_⟩;have hk:=hin 0 _ rfl;have hb:(Box.box e cs).rep w (Fz c st.h ρ w) (fun k=>ρ (q k)) (ρ (q 0)):=(Box.rep_ren (q:=q) (ρ':=fun k=>ρ (q k)) fun _ _=>rfl).1 (hr.hp _ _ hk);have hkk:∀k':Nat,aA [(q 0,(none:Option Box))] k'=true→k'=q 0:=fun k' h=>by
  simp only [aA,Bool.or_false] at h;exact (Nat.eq_of_beq_eq_true h).symm
 have hno:∀k',k'=q 0→hput [(q 0,(none:Option Box))] st.h k'=none:=fun k' e=>by subst e;simp [hput]
 have h2:=hr.app (ρ':=ρ) (w':=w) (dst:=none) (v:=undef) (e:=⟨.c .any,[(q 0,none)],[]⟩) (fun d hd=>by cases hd)
  (fun k' hk=>by simp [aK] at hk) (fun k' _=>rfl) (fun k' h=>.inr (by rw [hkk k' h];exact hr.nfh hk)) (Frx.refl _ _)
  (fun k' bx g h hp _=>by rw [hno k' (hkk k' h)] at hp;cases hp) (fun k1 k2 b b' g h1 h2 _ _ _ _=>by rw [hkk k1 h1,hkk k2 h2]) (fun k' hk=>by simp [TV.has,V0.has,D.has] at hk)
  (fun k1 k2 bx h hp _=>by rw [hno k2 (hkk k2 h)] at hp;cases hp) (fun k2 bx h hp=>by rw [hno k2 (hkk k2 h)] at hp;cases hp) trivial
 match vs,hargs with
 | [v],⟨hv,_⟩ =>
  have hv:(D.slb (q 0) n).rep w (Fz c st.h ρ w) ρ v:=hv;obtain ⟨g,hg,hv⟩:=hv;have hs:(D.sl E l).rep w (Fz c (hput [(q 0,(none:Option Box))] st.h) ρ w) ρ v:=Je (F':=Fz c (hput [(q 0,(none:Option Box))] st.h) ρ w) (ρ:=fun k=>ρ (q k)) (k:=0) hb hl (fun b hb=>⟨hb.1,hb.2.1,fun k bx hk' he=>by
    by_cases e9:k=q 0
    ·rw [hno k e9] at hk';cases hk'
    ·have:hput [(q 0,(none:Option Box))] st.h k=st.h k:=bN (by
      cases h8:aA [(q 0,(none:Option Box))] k with
      | false=>rfl
      | true=>exact absurd (hkk k h8) e9)
     rw [this] at hk';exact hb.2.2 k bx hk' he⟩)
   (fun g' hg'=>⟨(hr.inb (q 0) _ g' hk hg').imp (c.hX g') id,hr.ltb hk hg',fun k bx hk' he=>by
    by_cases e9:k=q 0
    ·rw [hno k e9] at hk';cases hk'
    ·have:hput [(q 0,(none:Option Box))] st.h k=st.h k:=bN (by
      cases h8:aA [(q 0,(none:Option Box))] k with
      | false=>rfl
      | true=>exact absurd (hkk k h8) e9)
     rw [this] at hk';exact e9 (hr.dis k (q 0) bx _ g' hk' hk he hg')⟩) ⟨hn,hm⟩ ⟨g,hg,hv⟩
  refine (h.ca q c _ ρ a w [v] h2 (fun k k' hk _ _=>by simp [av,aK] at hk) ⟨hs,trivial⟩ (fun k b hb=>by cases hb) (fun k hk=>by simp [aK] at hk)).mono ?_;rintro e' w' ⟨v',rfl,hk9⟩;refine ⟨v',rfl,fun dst hd=>?_⟩;obtain ⟨ρ',hr'⟩:=hk9 dst hd;refine ⟨ρ',?_⟩;have he:(st.app none ⟨.c .any,[(q 0,none)],[]⟩).app dst ⟨res.ren q,el q [],[].map q⟩=st.app dst ⟨res.ren q,el q [(0,none)],[].map q⟩:=by
   simp [Mst.app,el,hput,jZ,aK]
  rw [←he];exact hr'
section
variable {P:Program} {o:Oper} {s:Mst}
end
instance:Dp Jt:=fo _ _ _ _ _
theorem Lx (n m:Int) (hm:m≤1048576):FSpec prog 40 [oK n,oK m] [] [] (.i (pX n m)) []:=by
 refine aP func40 ?_;by_cases h1:m<1
 ·have e:pX n m=0:=by unfold pX;rw [decide_eq_true h1];rfl
  rw [e];repeat' (first|refine af ?_ ?_|refine ae ?_|exact ah|refine ab fun hb=>?_|exact aX|fail)
 ·have k1:n.tmod m<m:=Int.tmod_lt_of_pos n (by omega);have k2 : -m<n.tmod m:=Int.lt_tmod_of_pos n (by omega);obtain ⟨r,hr⟩:∃r,n.tmod m=r:=⟨_,rfl⟩;have e:pX n m=bif decide (r<0) then r+m else r:=by unfold pX;rw [decide_eq_false h1,hr];rfl
  rw [e];rw [hr] at k1 k2;by_cases h2:r<0
  ·rw [decide_eq_true h2];repeat' (first|refine af ?_ ?_|(refine aa 10 rfl ?_;refine sx (uP rfl rfl rfl (by omega) hr) ?_)|refine ae ?_|exact ah|refine ab fun hb=>?_|exact aX|fail)
  ·rw [decide_eq_false h2];repeat' (first|refine af ?_ ?_|(refine aa 10 rfl ?_;refine sx (uP rfl rfl rfl (by omega) hr) ?_)|refine ae ?_|exact ah|refine ab fun hb=>?_|exact aX|fail)
theorem Kx (n m:Int) (hm:m≤1048576) {r:Int} (h:pX n m=r):FSpec prog 40 [oK n,oK m] [] [] (.i r) []:=h▸Lx n m hm
theorem EV (n:Int):FSpec prog 17 [oK n] [] [] (.v (cm n).a) []:=by
 refine aP func17 ?_;obtain ⟨r,hr⟩:∃r,pX n 8=r:=⟨_,rfl⟩;have kM:=Kx n 8 (by omega) hr;have hb:=GF (n:=n) (m:=8) (by omega);rw [hr] at hb;have e:cm n=⟨r.tmod 4,1,1+r.tdiv 4⟩:=by unfold cm;rw [hr]
 rw [e];have hq:0≤r.tdiv 4∧r.tdiv 4≤8:=by rw [Int.tdiv_eq_ediv_of_nonneg hb.1];omega
 obtain ⟨q,hq2⟩:∃q,r.tdiv 4=q:=⟨_,rfl⟩;rw [hq2] at hq ⊢;repeat' (first|refine af ?_ ?_|refine aa 9 rfl (cB [] (kM) ?_)|(refine aa 10 rfl ?_;first|(refine sx (Fx rfl rfl rfl (by decide) ((congrArg _ hq2).trans (IntWalk.i64_in _ (by omega)))) ?_)|(refine sx (uP rfl rfl rfl (by decide) rfl) ?_))|refine ae ?_|exact ah|refine ab fun hb=>?_|exact aX|fail)
def L1 (n:ByteArray) (m:Int):V0:=.ag [.sc (.int .i64 0),.sc (.string n),.sc (.int .i64 m),.sc (.int .i64 0),.sc (.slice none 0 0)]
theorem GU (n:ByteArray) (m:Int):FSpec prog 18 [.one (.sc (.string n)),.one (.sc (.int .i64 m))] [] [] (.v (L1 n m)) []:=by
 refine aP func18 ?_;repeat' (first|refine af ?_ ?_|refine ae ?_|exact ah|refine ab fun hb=>?_|exact aX|fail)
theorem EW:FSpec prog 7 [] [] [] (.b true) []:=by
 refine aP func7 ?_;have kA:=GU nA 5;have kP0:=EV 0;have kP1:=EV 1;have kN:=(Ku 0 [Lu] (v:=true) (by decide +kernel) (Q:=[xQ Lu]) rfl).lit (e:=55) (n:=1) rfl rfl (by decide);have h1:=qd LX;have h2:=qd LY;have h3:=qd LZ;have h4:=qd LM;have k1:=Kv 0 ET (E7 (cm 0)) h1;have k2:=Kv 0 zo (E7 (cm 1)) h2;have k3:=Kv 0 x8 (EU (cm 0)) h3;have k4:=Kv 0 zp (EU (cm 1)) h4;obtain ⟨x,hx,hxw,hxg⟩:∃x,o8.procs[1]? = some x∧x.waiting=true∧(aZ o8.queues x.proc x.req.expr).length=1:=by
  have h:=L0;cases hx:o8.procs[1]? with
  | none=>rw [hx] at h;cases h
  | some x =>
   rw [hx] at h;simp only [Option.map_some,Option.some.injEq,Prod.mk.injEq] at h;exact ⟨x,rfl,h.1,h.2⟩
 have hcl:=(LL (fJ.1 Lw).1).2.2.2 x (List.mem_of_getElem? hx);have kF:=Kw 0 o8 (cm 1) LN hx hcl.1 hcl.2.1 hcl.2.2;obtain ⟨B,hB⟩:∃B,aZ o8.queues x.proc x.req.expr=B:=⟨_,rfl⟩;have kG:=B6 0 o8 (cm 1) LN hx hxw Lw hB;have kV:=vM 0 o8 Lw;rw [hB] at hxg;obtain ⟨E,hE⟩:∃E,(nN x8 (EU (cm 0))).2.1=E:=⟨_,rfl⟩;have he3:=Lv;rw [hE] at k3 he3;have hEl:E.length=2:=by have:=congrArg List.length he3;simpa using this
 obtain ⟨z,hz⟩:∃z,E[(1:Int).toNat]? = some z:=⟨_,List.getElem?_eq_getElem (by show 1<E.length;omega)⟩;have hzk:z.kind=2:=by
  have h:=congrArg (fun l:List Int=>l[1]?) he3;simp only [List.getElem?_map] at h;have hz':E[1]? = some z:=hz;rw [hz'] at h;simpa using h
 rw [show (nN ET (E7 (cm 0))).1=zo from rfl] at k1;rw [show (nN zo (E7 (cm 1))).1=x8 from rfl] at k2;rw [show (nN x8 (EU (cm 0))).1=zp from rfl] at k3;rw [show (nN zp (EU (cm 1))).1=o8 from rfl] at k4;obtain ⟨E1,hE1⟩:∃E,(nN ET (E7 (cm 0))).2.1=E:=⟨_,rfl⟩;obtain ⟨E2,hE2⟩:∃E,(nN zo (E7 (cm 1))).2.1=E:=⟨_,rfl⟩;obtain ⟨E4,hE4⟩:∃E,(nN zp (EU (cm 1))).2.1=E:=⟨_,rfl⟩;rw [hE1] at k1;rw [hE2] at k2;rw [hE4] at k4;clear h1 h2 h3 h4 hE hE1 hE2 hE4 he3 hcl hB hx;generalize o8=S4 at *
 generalize zp=S3 at *
 generalize x8=S2 at *
 generalize zo=S1 at *
 generalize cm 0=p0 at *
 generalize cm 1=p1 at *
 repeat' (first|refine af ?_ ?_|(refine aa 9 rfl ?_;first|(refine cH (qf [(0,17)]) (kN) ?_)|(refine cC [] (kP0) ?_)|(refine cC [] (kP1) ?_)|(refine cC [] (kA) ?_)|(refine cC [] (k1) ?_)|(refine cC [] (k2) ?_)|(refine cC [] (k3) ?_)|(refine cC [] (k4) ?_)|(refine cC [] (kF) ?_)|(refine cC [] (kG) ?_)|(refine cB [] (kV) ?_))|refine ae ?_|exact ah|(refine ab fun hb=>?_;first|(cases hxw.symm.trans hb;done)|(exfalso;omega)|skip)|exact aX|fail)
class EQR (P:Program) (t:TypeId) (sh:outParam (List Nat)):Prop where
 g:P.eqGuardType P.depth t=false
 e:∀(w:World) (a:List Value),a.map shp=sh→(Op.equal t (.agg a.toArray) (.agg a.toArray)).run P w = .ok true w
section
variable {P:Program} {o:Oper} {s:Mst}
theorem cn {t t':TypeId} {x y:Operand} {la:List D} {a:List Value} {sh:List Nat} [I:EQR P t sh] (ho:o.op = .binOp .neq t x y t') (hx:s.ev x = .v (.ag la)) (hy:s.ev y = .v (.ag la)) (ha:scs la=some a) (h1:a.map shp=sh):LOp P o s [] ⟨.b false,[],[]⟩ :=
 bp fun cx st ρ ac w hr hc _=>by
  have he:=hc x (by simp [ho,Op.operands]);have he2:=hc y (by simp [ho,Op.operands]);rw [hx] at he;rw [hy] at he2;have hv:=hr.ev x;rw [he] at hv;have hv2:=hr.ev y;rw [he2] at hv2;obtain ⟨vs,hv,hA⟩:=hv;obtain ⟨us,hv2,hB⟩:=hv2;have e1:=eX ha hA;have e2:=eX ha hB;subst e1;subst e2;refine ⟨.bool false,?_,rfl,fun k hk=>by simp [TV.has,V0.has,D.has] at hk⟩;unfold execOp;rw [ho];simp [hv,hv2,eqGuard,binOp,I.e w us h1,I.g]
theorem cq {t t':TypeId} {x y:Operand} {la:List D} {a:List Value} {sh:List Nat} [I:EQR P t sh] (ho:o.op = .binOp .eql t x y t') (hx:s.ev x = .v (.ag la)) (hy:s.ev y = .v (.ag la)) (ha:scs la=some a) (h1:a.map shp=sh):LOp P o s [] ⟨.b true,[],[]⟩ :=
 bp fun cx st ρ ac w hr hc _=>by
  have he:=hc x (by simp [ho,Op.operands]);have he2:=hc y (by simp [ho,Op.operands]);rw [hx] at he;rw [hy] at he2;have hv:=hr.ev x;rw [he] at hv;have hv2:=hr.ev y;rw [he2] at hv2;obtain ⟨vs,hv,hA⟩:=hv;obtain ⟨us,hv2,hB⟩:=hv2;have e1:=eX ha hA;have e2:=eX ha hB;subst e1;subst e2;refine ⟨.bool true,?_,rfl,fun k hk=>by simp [TV.has,V0.has,D.has] at hk⟩;unfold execOp;rw [ho];simp [hv,hv2,eqGuard,binOp,I.e w us h1,I.g]
end
theorem AF {P:Program} {o:Oper} {s:Mst} {t t':TypeId} {x y:Operand} {a b:Bool} (hT:P.underlying t=some .bool) (ho:o.op = .binOp .eql t x y t') (hx:s.ev x = .b a) (hy:s.ev y = .b b):LOp P o s [] ⟨.b (a == b),[],[]⟩ :=
 iC (by rw [ho];rfl) hx hy fun ev w hx hy=>by simp [execOp,ho,hx,hy,eqGuard,binOp,run_equal_bool w t a b hT]
theorem fL {a:List Value} {k:Nat} {l:List Nat} (h:a.map shp=k :: l):∃x b,a=x :: b∧shp x=k∧b.map shp=l:=by
 cases a with
 | nil=>cases h
 | cons x b =>
  simp only [List.map_cons,List.cons.injEq] at h;exact ⟨x,b,rfl,h.1,h.2⟩
instance:EQR prog 197 [0,0,0,0,0]:=⟨by kernel_rfl,fun w a ha=>by
 have hS:prog.underlying 197=some (.struct (prog.fieldsOf 197)):=by kernel_rfl
 have hp:prog.stoodInHeld 197=false:=by kernel_rfl
 obtain ⟨a0,r0,rfl,h0,k0⟩:=fL ha;obtain ⟨x0,rfl⟩:=dN h0;obtain ⟨a1,r1,rfl,h1,k1⟩:=fL k0;obtain ⟨x1,rfl⟩:=dN h1;obtain ⟨a2,r2,rfl,h2,k2⟩:=fL k1;obtain ⟨x2,rfl⟩:=dN h2;obtain ⟨a3,r3,rfl,h3,k3⟩:=fL k2;obtain ⟨x3,rfl⟩:=dN h3;obtain ⟨a4,r4,rfl,h4,k4⟩:=fL k3;obtain ⟨x4,rfl⟩:=dN h4;obtain rfl:=List.map_eq_nil_iff.1 k4;show (Op.equalIn 10000 197 _ _).run _ _=_;rw [show (10000:Nat)=9999+1 from rfl,run_equalIn_agg w 9999 197 _ _ hS hp];have u3:=underlying3;have u4:=underlying9;simp only [Program.fieldsOf,underlying197,underlying35,underlying37];go_simp⟩
instance:EQR prog 171 [0,0,0,0,0,0,0]:=⟨by kernel_rfl,fun w a ha=>by
 have hS:prog.underlying 171=some (.struct (prog.fieldsOf 171)):=by kernel_rfl
 have hp:prog.stoodInHeld 171=false:=by kernel_rfl
 obtain ⟨a0,r0,rfl,h0,k0⟩:=fL ha;obtain ⟨x0,rfl⟩:=dN h0;obtain ⟨a1,r1,rfl,h1,k1⟩:=fL k0;obtain ⟨x1,rfl⟩:=dN h1;obtain ⟨a2,r2,rfl,h2,k2⟩:=fL k1;obtain ⟨x2,rfl⟩:=dN h2;obtain ⟨a3,r3,rfl,h3,k3⟩:=fL k2;obtain ⟨x3,rfl⟩:=dN h3;obtain ⟨a4,r4,rfl,h4,k4⟩:=fL k3;obtain ⟨x4,rfl⟩:=dN h4;obtain ⟨a5,r5,rfl,h5,k5⟩:=fL k4;obtain ⟨x5,rfl⟩:=dN h5;obtain ⟨a6,r6,rfl,h6,k6⟩:=fL k5;obtain ⟨x6,rfl⟩:=dN h6;obtain rfl:=List.map_eq_nil_iff.1 k6;show (Op.equalIn 10000 171 _ _).run _ _=_;rw [show (10000:Nat)=9999+1 from rfl,run_equalIn_agg w 9999 171 _ _ hS hp];have u3:=underlying3;have u4:=underlying9;simp only [Program.fieldsOf,underlying171,underlying35,underlying37];go_simp⟩
instance:EQR prog 67 [0,0,0,0,1,0,0]:=⟨by kernel_rfl,fun w a ha=>by
 have hS:prog.underlying 67=some (.struct (prog.fieldsOf 67)):=by kernel_rfl
 have hp:prog.stoodInHeld 67=false:=by kernel_rfl
 obtain ⟨a0,r0,rfl,h0,k0⟩:=fL ha;obtain ⟨x0,rfl⟩:=dN h0;obtain ⟨a1,r1,rfl,h1,k1⟩:=fL k0;obtain ⟨x1,rfl⟩:=dN h1;obtain ⟨a2,r2,rfl,h2,k2⟩:=fL k1;obtain ⟨x2,rfl⟩:=dN h2;obtain ⟨a3,r3,rfl,h3,k3⟩:=fL k2;obtain ⟨x3,rfl⟩:=dN h3;obtain ⟨a4,r4,rfl,h4,k4⟩:=fL k3;obtain ⟨x4,rfl⟩:=C5 h4;obtain ⟨a5,r5,rfl,h5,k5⟩:=fL k4;obtain ⟨x5,rfl⟩:=dN h5;obtain ⟨a6,r6,rfl,h6,k6⟩:=fL k5;obtain ⟨x6,rfl⟩:=dN h6;obtain rfl:=List.map_eq_nil_iff.1 k6;show (Op.equalIn 10000 67 _ _).run _ _=_;rw [show (10000:Nat)=9999+1 from rfl,run_equalIn_agg w 9999 67 _ _ hS hp];have u3:=underlying3;have u4:=underlying9;simp only [Program.fieldsOf,underlying67,underlying35,underlying37];go_simp⟩
instance:EQR prog 55 [1,0,0,0]:=⟨by kernel_rfl,fun w a ha=>by
 have hS:prog.underlying 55=some (.struct (prog.fieldsOf 55)):=by kernel_rfl
 have hp:prog.stoodInHeld 55=false:=by kernel_rfl
 obtain ⟨a0,r0,rfl,h0,k0⟩:=fL ha;obtain ⟨x0,rfl⟩:=C5 h0;obtain ⟨a1,r1,rfl,h1,k1⟩:=fL k0;obtain ⟨x1,rfl⟩:=dN h1;obtain ⟨a2,r2,rfl,h2,k2⟩:=fL k1;obtain ⟨x2,rfl⟩:=dN h2;obtain ⟨a3,r3,rfl,h3,k3⟩:=fL k2;obtain ⟨x3,rfl⟩:=dN h3;obtain rfl:=List.map_eq_nil_iff.1 k3;show (Op.equalIn 10000 55 _ _).run _ _=_;rw [show (10000:Nat)=9999+1 from rfl,run_equalIn_agg w 9999 55 _ _ hS hp];have u3:=underlying3;have u4:=underlying9;simp only [Program.fieldsOf,underlying55];go_simp⟩
instance:EQR prog 141 [1,0,0,0,0]:=⟨by kernel_rfl,fun w a ha=>by
 have hS:prog.underlying 141=some (.struct (prog.fieldsOf 141)):=by kernel_rfl
 have hp:prog.stoodInHeld 141=false:=by kernel_rfl
 obtain ⟨a0,r0,rfl,h0,k0⟩:=fL ha;obtain ⟨x0,rfl⟩:=C5 h0;obtain ⟨a1,r1,rfl,h1,k1⟩:=fL k0;obtain ⟨x1,rfl⟩:=dN h1;obtain ⟨a2,r2,rfl,h2,k2⟩:=fL k1;obtain ⟨x2,rfl⟩:=dN h2;obtain ⟨a3,r3,rfl,h3,k3⟩:=fL k2;obtain ⟨x3,rfl⟩:=dN h3;obtain ⟨a4,r4,rfl,h4,k4⟩:=fL k3;obtain ⟨x4,rfl⟩:=dN h4;obtain rfl:=List.map_eq_nil_iff.1 k4;show (Op.equalIn 10000 141 _ _).run _ _=_;rw [show (10000:Nat)=9999+1 from rfl,run_equalIn_agg w 9999 141 _ _ hS hp];have u3:=underlying3;have u4:=underlying9;simp only [Program.fieldsOf,underlying141,underlying37];go_simp⟩
instance:EQR prog 143 [0,0]:=⟨by kernel_rfl,fun w a ha=>by
 have hS:prog.underlying 143=some (.struct (prog.fieldsOf 143)):=by kernel_rfl
 have hp:prog.stoodInHeld 143=false:=by kernel_rfl
 obtain ⟨a0,r0,rfl,h0,k0⟩:=fL ha;obtain ⟨x0,rfl⟩:=dN h0;obtain ⟨a1,r1,rfl,h1,k1⟩:=fL k0;obtain ⟨x1,rfl⟩:=dN h1;obtain rfl:=List.map_eq_nil_iff.1 k1;show (Op.equalIn 10000 143 _ _).run _ _=_;rw [show (10000:Nat)=9999+1 from rfl,run_equalIn_agg w 9999 143 _ _ hS hp];have u3:=underlying3;have u4:=underlying9;simp only [Program.fieldsOf,underlying143];go_simp⟩
theorem GV (L:List Ho):FSpec prog 103 [.one (.sl fV L),.one (.sl fV L)] [] [] (.b true) []:=by
 refine aP func103 ?_;refine aM (fun c ρ a w hr=>bz (t:=0) hr rfl) (fun hl0=>?_);repeat' (first|refine af ?_ ?_|(refine aa 10 rfl ?_;first|refine sx (cn rfl rfl rfl rfl rfl) ?_|refine sx (cq rfl rfl rfl rfl rfl) ?_)|refine ae ?_|exact ah|(refine ab fun hb=>?_;first|(exact absurd rfl hb)|skip))
 refine ai (fun i=>i≤L.length) (fun i=>bt [] [(0,.c (.sl fV L)),(1,.c (.sl fV L)),(5,.i i)] []) (fun i=>L.length-i) 0 (Nat.zero_le _) aN ?_;intro i hi;by_cases hlt:i<L.length
 ·obtain ⟨o,ho⟩:∃o,L[i]? = some o:=⟨_,List.getElem?_eq_getElem hlt⟩;repeat' (first|refine af ?_ ?_|(refine aa 10 rfl ?_;first|refine sx (cn rfl rfl rfl rfl rfl) ?_|refine sx (cq rfl rfl rfl rfl rfl) ?_)|refine ae ?_|exact ah|(refine ab fun hb=>?_;first|(exact absurd rfl hb)|skip))
  refine ⟨i+1,hlt,by omega,?_⟩;exact aN
 ·repeat' (first|refine af ?_ ?_|refine ae ?_|exact ah|refine ab fun hb=>?_|exact aX|fail)
theorem AG (L:List Wt):FSpec prog 104 [.one (.sl eM L),.one (.sl eM L)] [] [] (.b true) []:=by
 refine aP func104 ?_;refine aM (fun c ρ a w hr=>bz (t:=0) hr rfl) (fun hl0=>?_);repeat' (first|refine af ?_ ?_|(refine aa 10 rfl ?_;first|refine sx (cn rfl rfl rfl rfl rfl) ?_|refine sx (cq rfl rfl rfl rfl rfl) ?_)|refine ae ?_|exact ah|(refine ab fun hb=>?_;first|(exact absurd rfl hb)|skip))
 refine ai (fun i=>i≤L.length) (fun i=>bt [] [(0,.c (.sl eM L)),(1,.c (.sl eM L)),(5,.i i)] []) (fun i=>L.length-i) 0 (Nat.zero_le _) aN ?_;intro i hi;by_cases hlt:i<L.length
 ·obtain ⟨o,ho⟩:∃o,L[i]? = some o:=⟨_,List.getElem?_eq_getElem hlt⟩;repeat' (first|refine af ?_ ?_|(refine aa 10 rfl ?_;first|refine sx (cn rfl rfl rfl rfl rfl) ?_|refine sx (cq rfl rfl rfl rfl rfl) ?_)|refine ae ?_|exact ah|(refine ab fun hb=>?_;first|(exact absurd rfl hb)|skip))
  refine ⟨i+1,hlt,by omega,?_⟩;exact aN
 ·repeat' (first|refine af ?_ ?_|refine ae ?_|exact ah|refine ab fun hb=>?_|exact aX|fail)
theorem GW (L:List Ev):FSpec prog 14 [.one (.sl fG L),.one (.sl fG L)] [] [] (.b true) []:=by
 refine aP func14 ?_;refine aM (fun c ρ a w hr=>bz (t:=0) hr rfl) (fun hl0=>?_);repeat' (first|refine af ?_ ?_|(refine aa 10 rfl ?_;first|refine sx (cn rfl rfl rfl rfl rfl) ?_|refine sx (cq rfl rfl rfl rfl rfl) ?_)|refine ae ?_|exact ah|(refine ab fun hb=>?_;first|(exact absurd rfl hb)|skip))
 refine ai (fun i=>i≤L.length) (fun i=>bt [] [(0,.c (.sl fG L)),(1,.c (.sl fG L)),(5,.i i)] []) (fun i=>L.length-i) 0 (Nat.zero_le _) aN ?_;intro i hi;by_cases hlt:i<L.length
 ·obtain ⟨o,ho⟩:∃o,L[i]? = some o:=⟨_,List.getElem?_eq_getElem hlt⟩;repeat' (first|refine af ?_ ?_|(refine aa 10 rfl ?_;first|refine sx (cn rfl rfl rfl rfl rfl) ?_|refine sx (cq rfl rfl rfl rfl rfl) ?_)|refine ae ?_|exact ah|(refine ab fun hb=>?_;first|(exact absurd rfl hb)|skip))
  refine ⟨i+1,hlt,by omega,?_⟩;exact aN
 ·repeat' (first|refine af ?_ ?_|refine ae ?_|exact ah|refine ab fun hb=>?_|exact aX|fail)
theorem Jf (q:Qu):FSpec prog 43 [q.a,q.a] [] [] (.b true) []:=by
 refine aP func43 ?_;have k1:=GV q.holds;have k2:=AG q.convs;have k3:=AG q.waits;repeat' (first|refine af ?_ ?_|(refine aa 9 rfl ?_;first|(refine cB [] (k1) ?_)|(refine cB [] (k2) ?_)|(refine cB [] (k3) ?_))|(refine aa 10 rfl ?_;first|refine sx (cn rfl rfl rfl rfl rfl) ?_|refine sx (cq rfl rfl rfl rfl rfl) ?_)|refine ae ?_|exact ah|(refine ab fun hb=>?_;first|(exact absurd rfl hb)|skip)|exact aX|fail)
theorem Jg (L:List Qu):FSpec prog 21 [.one (.sl dC L),.one (.sl dC L)] [] [] (.b true) []:=by
 refine aP func21 ?_;refine aM (fun c ρ a w hr=>bz (t:=0) hr rfl) (fun hl0=>?_);repeat' (first|refine af ?_ ?_|(refine aa 10 rfl ?_;first|refine sx (cn rfl rfl rfl rfl rfl) ?_|refine sx (cq rfl rfl rfl rfl rfl) ?_)|refine ae ?_|exact ah|(refine ab fun hb=>?_;first|(exact absurd rfl hb)|skip))
 refine ai (fun i=>i≤L.length) (fun i=>bt [] [(0,.c (.sl dC L)),(1,.c (.sl dC L)),(5,.i i)] []) (fun i=>L.length-i) 0 (Nat.zero_le _) aN ?_;intro i hi;by_cases hlt:i<L.length
 ·obtain ⟨o,ho⟩:∃o,L[i]? = some o:=⟨_,List.getElem?_eq_getElem hlt⟩;have kQ:=Jf o;repeat' (first|refine af ?_ ?_|refine aa 9 rfl (cB [] (kQ) ?_)|(refine aa 10 rfl ?_;first|refine sx (cn rfl rfl rfl rfl rfl) ?_|refine sx (cq rfl rfl rfl rfl rfl) ?_)|refine ae ?_|exact ah|(refine ab fun hb=>?_;first|(exact absurd rfl hb)|skip))
  refine ⟨i+1,hlt,by omega,?_⟩;exact aN
 ·repeat' (first|refine af ?_ ?_|refine ae ?_|exact ah|refine ab fun hb=>?_|exact aX|fail)
theorem GX (g:Lg):FSpec prog 44 [g.a,g.a] [] [] (.b true) []:=by
 refine aP func44 ?_;refine aM (fun c ρ a w hr=>dj (t:=0) (i:=0) hr rfl rfl) (fun hl0_0=>?_);refine aM (fun c ρ a w hr=>dj (t:=0) (i:=1) hr rfl rfl) (fun hl0_1=>?_);repeat' (first|refine af ?_ ?_|(refine aa 10 rfl ?_;first|refine sx (cn rfl rfl rfl rfl rfl) ?_|refine sx (cq rfl rfl rfl rfl rfl) ?_)|refine ae ?_|exact ah|(refine ab fun hb=>?_;first|(exact absurd rfl hb)|skip))
 refine ai (fun i=>i≤g.entries.length) (fun i=>bt [2,3] [(2,.c (.ptr 2 0)),(3,.c (.ptr 3 0)),(5,.i i)] [(2,.box 61 [.sl iG g.entries,.sl i5 g.saves]),(3,.box 61 [.sl iG g.entries,.sl i5 g.saves])]) (fun i=>g.entries.length-i) 0 (Nat.zero_le _) aN ?_;intro i hi;by_cases hlt:i<g.entries.length
 ·obtain ⟨o,ho⟩:∃o,g.entries[i]? = some o:=⟨_,List.getElem?_eq_getElem hlt⟩;repeat' (first|refine af ?_ ?_|(refine aa 10 rfl ?_;first|refine sx (cn rfl rfl rfl rfl rfl) ?_|refine sx (cq rfl rfl rfl rfl rfl) ?_)|refine ae ?_|exact ah|(refine ab fun hb=>?_;first|(exact absurd rfl hb)|skip))
  refine ⟨i+1,hlt,by omega,?_⟩;exact aN
 repeat' (first|refine af ?_ ?_|refine ae ?_|exact ah|refine ab fun hb=>?_)
 refine ai (fun i=>i≤g.saves.length) (fun i=>bt [2,3] [(2,.c (.ptr 2 0)),(3,.c (.ptr 3 0)),(6,.i i)] [(2,.box 61 [.sl iG g.entries,.sl i5 g.saves]),(3,.box 61 [.sl iG g.entries,.sl i5 g.saves])]) (fun i=>g.saves.length-i) 0 (Nat.zero_le _) aN ?_;clear hi hlt;intro i hi;by_cases hlt:i<g.saves.length
 ·obtain ⟨o,ho⟩:∃o,g.saves[i]? = some o:=⟨_,List.getElem?_eq_getElem hlt⟩;repeat' (first|refine af ?_ ?_|(refine aa 10 rfl ?_;first|refine sx (cn rfl rfl rfl rfl rfl) ?_|refine sx (cq rfl rfl rfl rfl rfl) ?_)|refine ae ?_|exact ah|(refine ab fun hb=>?_;first|(exact absurd rfl hb)|skip))
  refine ⟨i+1,hlt,by omega,?_⟩;exact aN
 ·repeat' (first|refine af ?_ ?_|refine ae ?_|exact ah|refine ab fun hb=>?_|exact aX|fail)
theorem GY:∀(x:Ex) (d:Nat),FSpec prog 105 [x.a d,x.a d] [] [] (.b true) []:=by
 refine Ex.ind (fun k a l ih=>?_);intro d;show FSpec prog 105 [.ag (sO d k a l),.ag (sO d k a l)] [] [] (.b true) [];refine aP func105 ?_;refine aM (fun c ρ a w hr=>iH (t:=0) (i:=4) hr rfl rfl) (fun hx=>?_);obtain ⟨hlen,hne⟩:=hx;rcases Nat.eq_zero_or_pos l.length with h0|h0
 ·obtain rfl:l=[]:=List.length_eq_zero_iff.1 h0;repeat' (first|refine af ?_ ?_|(refine aa 10 rfl ?_;first|refine sx (cn rfl rfl rfl rfl rfl) ?_|refine sx (cq rfl rfl rfl rfl rfl) ?_)|refine ae ?_|exact ah|(refine ab fun hb=>?_;first|(exact absurd rfl hb)|skip))
  refine ai (fun _:Unit=>True) (fun _=>bt [2,3] [(2,.c (.ptr 2 0)),(3,.c (.ptr 3 0)),(5,.i (0:Nat))] [(2,.box 42 (sO d k a [])),(3,.box 42 (sO d k a []))]) (fun _=>0) () trivial aN ?_;rintro _ -
  repeat' (first|refine af ?_ ?_|refine ae ?_|exact ah|(refine ab fun hb=>?_;first|(exfalso;omega)|skip)|exact aX|fail)
 ·obtain ⟨e,rfl⟩:=hne h0;clear hne;repeat' (first|refine af ?_ ?_|(refine aa 10 rfl ?_;first|refine sx (cn rfl rfl rfl rfl rfl) ?_|refine sx (cq rfl rfl rfl rfl rfl) ?_)|refine ae ?_|exact ah|(refine ab fun hb=>?_;first|(exact absurd rfl hb)|skip))
  refine ai (fun i=>i≤l.length) (fun i=>bt [2,3] [(2,.c (.ptr 2 0)),(3,.c (.ptr 3 0)),(5,.i i)] [(2,.box 42 (sO (e+1) k a l)),(3,.box 42 (sO (e+1) k a l))]) (fun i=>l.length-i) 0 (Nat.zero_le _) aN ?_;intro i hi;by_cases hlt:i<l.length
  ·have kS:=ih l[i] (List.getElem_mem hlt) e;clear ih;repeat' (first|refine af ?_ ?_|refine aa 9 rfl (cB [] (kS) ?_)|(refine aa 10 rfl ?_;first|refine sx (cn rfl rfl rfl rfl rfl) ?_|refine sx (cq rfl rfl rfl rfl rfl) ?_)|refine ae ?_|exact ah|(refine ab fun hb=>?_;first|(exact absurd rfl hb)|skip))
   refine ⟨i+1,by omega,by omega,?_⟩;exact aN
  ·repeat' (first|refine af ?_ ?_|refine ae ?_|exact ah|refine ab fun hb=>?_|exact aX|fail)
theorem GZ (d:Nat) (r:Rq):FSpec prog 45 [r.a d,r.a d] [] [] (.b true) []:=by
 refine aP func45 ?_;have kS:=GY r.expr d;repeat' (first|refine af ?_ ?_|refine aa 9 rfl (cB [] (kS) ?_)|(refine aa 10 rfl ?_;first|refine sx (cn rfl rfl rfl rfl rfl) ?_|refine sx (cq rfl rfl rfl rfl rfl) ?_|refine sx (AF underlying4 rfl rfl rfl) ?_)|refine ae ?_|exact ah|(refine ab fun hb=>?_;first|(exact absurd rfl hb)|skip))
 all_goals (refine d7 ?_;simp)
theorem G0 (d:Nat) (x:Pc):FSpec prog 22 [x.a d,x.a d] [] [] (.b true) []:=by
 refine aP func22 ?_;have k1:=GX x.led;have k2:=GZ d x.req;repeat' (first|refine af ?_ ?_|(refine aa 9 rfl ?_;first|(refine cB [] (k1) ?_)|(refine cB [] (k2) ?_))|(refine aa 10 rfl ?_;first|refine sx (cn rfl rfl rfl rfl rfl) ?_|refine sx (cq rfl rfl rfl rfl rfl) ?_|refine sx (AF underlying4 rfl rfl rfl) ?_)|refine ae ?_|exact ah|(refine ab fun hb=>?_;first|(exact absurd rfl hb)|skip))
 all_goals (refine d7 ?_;simp)
theorem Jh (d:Nat) (c:Cs):FSpec prog 8 [c.a d,c.a d] [] [] (.b true) []:=by
 refine aP func8 ?_;refine aM (fun c ρ a w hr=>dj (t:=0) (i:=2) hr rfl rfl) (fun hl0_2=>?_);have k1:=Jg c.queues;repeat' (first|refine af ?_ ?_|refine aa 9 rfl (cB [] (k1) ?_)|(refine aa 10 rfl ?_;first|refine sx (cn rfl rfl rfl rfl rfl) ?_|refine sx (cq rfl rfl rfl rfl rfl) ?_)|refine ae ?_|exact ah|(refine ab fun hb=>?_;first|(exact absurd rfl hb)|skip))
 refine ai (fun i=>i≤c.procs.length) (fun i=>bt [2,3] [(2,.c (.ptr 2 0)),(3,.c (.ptr 3 0)),(5,.i i)] [(2,.box 26 (c.d d)),(3,.box 26 (c.d d))]) (fun i=>c.procs.length-i) 0 (Nat.zero_le _) aN ?_;intro i hi;by_cases hlt:i<c.procs.length
 ·obtain ⟨x,hx⟩:∃x,c.procs[i]? = some x:=⟨_,List.getElem?_eq_getElem hlt⟩;have kP:=G0 d x;repeat' (first|refine af ?_ ?_|refine aa 9 rfl (cB [] (kP) ?_)|(refine aa 10 rfl ?_;first|refine sx (cn rfl rfl rfl rfl rfl) ?_|refine sx (cq rfl rfl rfl rfl rfl) ?_)|refine ae ?_|exact ah|(refine ab fun hb=>?_;first|(exact absurd rfl hb)|skip))
  refine ⟨i+1,hlt,by omega,?_⟩;exact aN
 ·repeat' (first|refine af ?_ ?_|refine ae ?_|exact ah|refine ab fun hb=>?_|exact aX|fail)
def Ji (q:Qu):Bool:=decide (q.holds.length≤12) && decide (q.convs.length≤12) && decide (q.waits.length≤12)
def Jj (x:Pc):Bool:=decide (x.led.entries.length≤100) && decide (x.led.saves.length≤100)
def zq (c:Cs):Bool:=decide (c.queues.length≤12) && decide (c.procs.length≤12) && c.queues.all Ji && c.procs.all Jj
set_option maxRecDepth 100000
set_option maxHeartbeats 32000000
theorem Jk (d:Nat) (c:Cs) {b:Bool} (hB:zq c=b):FSpec prog 11 [c.a d] [] [] (.b b) []:=by
 refine aP func11 ?_;unfold zq at hB;by_cases h1:c.queues.length≤12
 case neg =>
  obtain rfl:b=false:=by rw [←hB,decide_eq_false h1];rfl
  repeat' (first|refine af ?_ ?_|refine ae ?_|exact ah|(refine ab fun hb=>?_;first|(exfalso;omega)|skip)|exact aX|fail)
 by_cases h2:c.procs.length≤12
 case neg =>
  obtain rfl:b=false:=by rw [←hB,decide_eq_false h2,Bool.and_false];rfl
  repeat' (first|refine af ?_ ?_|refine ae ?_|exact ah|(refine ab fun hb=>?_;first|(exfalso;omega)|skip)|exact aX|fail)
 rw [decide_eq_true h1,decide_eq_true h2,Bool.true_and,Bool.true_and] at hB;repeat' (first|refine af ?_ ?_|refine ae ?_|exact ah|(refine ab fun hb=>?_;first|(exfalso;omega)|skip))
 refine ai (fun i=>i≤c.queues.length∧((c.queues.drop i).all Ji && c.procs.all Jj)=b) (fun i=>bt [1] [(1,.c (.ptr 1 0)),(3,.i i)] [(1,.box 26 (c.d d))]) (fun i=>c.queues.length-i) 0 ⟨Nat.zero_le _,hB⟩ aN ?_;clear hB;rintro i ⟨hi,hs⟩;by_cases hlt:i<c.queues.length
 ·obtain ⟨q,hq⟩:∃q,c.queues[i]? = some q:=⟨_,List.getElem?_eq_getElem hlt⟩;have eq:c.queues[i]=q:=(List.getElem?_eq_some_iff.1 hq).2;rw [List.drop_eq_getElem_cons hlt,eq,List.all_cons] at hs;by_cases j1:q.holds.length≤12
  case neg =>
   obtain rfl:b=false:=by rw [←hs];simp [Ji,j1]
   repeat' (first|refine af ?_ ?_|refine ae ?_|exact ah|(refine ab fun hb=>?_;first|(exfalso;omega)|skip)|exact aX|fail)
  by_cases j2:q.convs.length≤12
  case neg =>
   obtain rfl:b=false:=by rw [←hs];simp [Ji,j2]
   repeat' (first|refine af ?_ ?_|refine ae ?_|exact ah|(refine ab fun hb=>?_;first|(exfalso;omega)|skip)|exact aX|fail)
  by_cases j3:q.waits.length≤12
  case neg =>
   obtain rfl:b=false:=by rw [←hs];simp [Ji,j3]
   repeat' (first|refine af ?_ ?_|refine ae ?_|exact ah|(refine ab fun hb=>?_;first|(exfalso;omega)|skip)|exact aX|fail)
  rw [show Ji q=true by simp [Ji,j1,j2,j3],Bool.true_and] at hs;repeat' (first|refine af ?_ ?_|refine ae ?_|exact ah|(refine ab fun hb=>?_;first|(exfalso;omega)|skip))
  refine ⟨i+1,⟨by omega,hs⟩,by omega,?_⟩;exact aN
 rw [List.drop_eq_nil_of_le (by omega),List.all_nil,Bool.true_and] at hs;repeat' (first|refine af ?_ ?_|refine ae ?_|exact ah|(refine ab fun hb=>?_;first|(exfalso;omega)|skip))
 refine ai (fun i=>i≤c.procs.length∧(c.procs.drop i).all Jj=b) (fun i=>bt [1] [(1,.c (.ptr 1 0)),(4,.i i)] [(1,.box 26 (c.d d))]) (fun i=>c.procs.length-i) 0 ⟨Nat.zero_le _,hs⟩ aN ?_;clear hs hlt hi;rintro i ⟨hi,hs⟩;by_cases hlt:i<c.procs.length
 ·obtain ⟨x,hx⟩:∃x,c.procs[i]? = some x:=⟨_,List.getElem?_eq_getElem hlt⟩;have ex:c.procs[i]=x:=(List.getElem?_eq_some_iff.1 hx).2;rw [List.drop_eq_getElem_cons hlt,ex,List.all_cons] at hs;by_cases j1:x.led.entries.length≤100
  case neg =>
   obtain rfl:b=false:=by rw [←hs];simp [Jj,j1]
   repeat' (first|refine af ?_ ?_|refine ae ?_|exact ah|(refine ab fun hb=>?_;first|(exfalso;omega)|skip)|exact aX|fail)
  by_cases j2:x.led.saves.length≤100
  case neg =>
   obtain rfl:b=false:=by rw [←hs];simp [Jj,j2]
   repeat' (first|refine af ?_ ?_|refine ae ?_|exact ah|(refine ab fun hb=>?_;first|(exfalso;omega)|skip)|exact aX|fail)
  rw [show Jj x=true by simp [Jj,j1,j2],Bool.true_and] at hs;repeat' (first|refine af ?_ ?_|refine ae ?_|exact ah|(refine ab fun hb=>?_;first|(exfalso;omega)|skip))
  refine ⟨i+1,⟨by omega,hs⟩,by omega,?_⟩;exact aN
 ·rw [List.drop_eq_nil_of_le (by omega)] at hs;obtain rfl:b=true:=hs.symm;repeat' (first|refine af ?_ ?_|refine ae ?_|exact ah|(refine ab fun hb=>?_;first|(exfalso;omega)|skip)|exact aX|fail)
theorem EX (d:Nat) (c:Cs) (k:Cm):FSpec prog 4 [c.a d,k.a d] [] [] (.b true) []:=by
 refine aP func4 ?_;have kA:=EW;obtain ⟨R,hR⟩:∃R,nN c k=R:=⟨_,rfl⟩;have kP:=Kv d c k hR;have kD:=LW d c k hR;obtain ⟨X,E,e⟩:=R;have kS:=Jh d X;have kE:=GW E;obtain ⟨b,hb0⟩:∃b,zq c=b:=⟨_,rfl⟩;have kL:=Jk d c hb0;cases b with
 | false =>
  repeat' (first|refine af ?_ ?_|(refine aa 9 rfl ?_;first|(refine cB [] (kL) ?_)|(refine cB [] (kA) ?_))|refine ae ?_|exact ah|refine ab fun hb=>?_|exact aX|fail)
 | true =>
  repeat' (first|refine af ?_ ?_|(refine aa 9 rfl ?_;first|(refine cB [] (kL) ?_)|(refine cC [] (kP) ?_)|(refine cC [] (kD) ?_)|(refine cB [] (kA) ?_)|(refine cB [] (kS) ?_)|(refine cB [] (kE) ?_))|refine ae ?_|exact ah|(refine ab fun hb=>?_;first|(exact absurd rfl hb)|skip)|exact aX|fail)
end Go.Proofs.YtjndcdcbjidocaaGreatDoor
