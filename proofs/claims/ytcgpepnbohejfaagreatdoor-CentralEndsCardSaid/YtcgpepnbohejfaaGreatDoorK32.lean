/- Part 32 of 56 of the proof of both_hold (no condition). -/
import Derived.Test.YtcgpepnbohejfaaGreatDoorK27
set_option linter.unusedVariables false
set_option linter.unusedSimpArgs false
set_option maxRecDepth 100000
set_option maxHeartbeats 64000000
namespace Go.Proofs.YtcgpepnbohejfaaGreatDoor
open Go.RowKit Go.Proofs.Tryz
theorem Fc (d:Nat) (q:Qu) (x:Pc) (L:List Tm) (hnd:A8 L) (hl:L.length≤100000) (h2:q.convs.length≤8) (h3:q.waits.length≤8) {b:Bool} (hB:cN q x L=b):FSpec prog 112 [q.a,x.a d,.one (.sl c7 L)] [] [] (.b b) []:=by
 refine aT func112 ?_;have hpt:=zw (q:=q) (x:=x) L 0 hnd;rw [hB] at hpt;have e0:cN q x []=(decide (ao q.holds x.proc=ay x.led.entries q.res.name) && !(ai q x.proc).isSome):=rfl;rw [e0] at hpt;unfold GX at hpt;obtain ⟨l,hL⟩:∃l,ay x.led.entries q.res.name=l:=⟨_,rfl⟩;have kL:=C9 x.led q.res.name hL;obtain ⟨h,hh⟩:∃h,ao q.holds x.proc=h:=⟨_,rfl⟩;have kH:=dK q x.proc;rw [hh] at kH;obtain ⟨o,hw⟩:∃o,ai q x.proc=o:=⟨_,rfl⟩;have kW:=dL q x.proc h2 h3 hw;rw [hL,hh,hw] at hpt;clear hB e0 hw hh hL;rcases hpt with ⟨hz,hb1⟩|⟨i,a,hz,hga,hb1⟩
 ·have kT:=FF L q hl hz;cases o with
  | none =>
   rw [Option.isSome_none] at kW hb1;repeat' (first|refine af ?_ ?_|(refine aa 0 rfl ?_;refine sx (cl (ks:=[3]) rfl rfl) ?_)|(refine aa 9 rfl ?_;first|(refine cB [] (kL) ?_)|(refine cB [] (kH) ?_)|(refine cB [] (kW) ?_)|(refine cH (qf [(9,3)]) (kT) ?_))|refine ae ?_|exact ah|refine ab fun hb=>?_)
   all_goals (refine fm ?_;rw [hb1];simp [*])
  | some m =>
   rw [Option.isSome_some] at kW hb1;repeat' (first|refine af ?_ ?_|(refine aa 0 rfl ?_;refine sx (cl (ks:=[3]) rfl rfl) ?_)|(refine aa 9 rfl ?_;first|(refine cB [] (kL) ?_)|(refine cB [] (kH) ?_)|(refine cB [] (kW) ?_)|(refine cH (qf [(9,3)]) (kT) ?_))|refine ae ?_|exact ah|refine ab fun hb=>?_)
   all_goals (refine fm ?_;rw [hb1];simp [*])
 ·rw [Nat.zero_add] at hz;have kT:=FF L q hl hz;have kC:=eL q.res l a.am;obtain ⟨c,hc⟩:∃c,a8 q.res l a.am=c:=⟨_,rfl⟩;obtain ⟨j,hj⟩:∃j,bN q.res l a.am=j:=⟨_,rfl⟩;have kJ:=Fs q.res l a.am;rw [hc,hj] at hb1;rw [hc] at kC;rw [hj] at kJ;have hi:=(List.getElem?_eq_some_iff.1 hga).1;cases c with
  | true =>
   rw [cond_true] at hb1;cases o with
   | none =>
    rw [Option.isSome_none] at kW hb1;repeat' (first|refine af ?_ ?_|(refine aa 0 rfl ?_;refine sx (cl (ks:=[3]) rfl rfl) ?_)|(refine aa 9 rfl ?_;first|(refine cB [] (kL) ?_)|(refine cB [] (kH) ?_)|(refine cB [] (kW) ?_)|(refine cH (qf [(9,3)]) (kT) ?_)|(refine cB [] (kC) ?_))|refine ae ?_|exact ah|(refine ab fun hb=>?_;first|(exfalso;omega)|skip))
    all_goals (refine fm ?_;rw [hb1];simp [*])
   | some m =>
    rw [Option.isSome_some] at kW hb1;repeat' (first|refine af ?_ ?_|(refine aa 0 rfl ?_;refine sx (cl (ks:=[3]) rfl rfl) ?_)|(refine aa 9 rfl ?_;first|(refine cB [] (kL) ?_)|(refine cB [] (kH) ?_)|(refine cB [] (kW) ?_)|(refine cH (qf [(9,3)]) (kT) ?_)|(refine cB [] (kC) ?_))|refine ae ?_|exact ah|(refine ab fun hb=>?_;first|(exfalso;omega)|skip))
    all_goals (refine fm ?_;rw [hb1];simp [*])
  | false =>
   rw [cond_false] at hb1;cases o with
   | none =>
    rw [Option.isSome_none] at kW hb1;repeat' (first|refine af ?_ ?_|(refine aa 0 rfl ?_;refine sx (cl (ks:=[3]) rfl rfl) ?_)|(refine aa 9 rfl ?_;first|(refine cB [] (kL) ?_)|(refine cB [] (kH) ?_)|(refine cB [] (kW) ?_)|(refine cH (qf [(9,3)]) (kT) ?_)|(refine cB [] (kC) ?_)|(refine cB [] (kJ) ?_))|refine ae ?_|exact ah|(refine ab fun hb=>?_;first|(exfalso;omega)|skip))
    all_goals (refine fm ?_;rw [hb1];simp [*])
   | some m =>
    rw [Option.isSome_some] at kW hb1;rw [Bool.not_true,cond_false] at hb1;by_cases hboth:h=l∧m=j
    case neg =>
     obtain rfl:b=false:=by
      rw [hb1];cases q.waits.any (fun y=>decide (y.proc=x.proc) && !decide (y.prio=x.req.prio)) with
      | true=>rfl
      | false =>
       rw [cond_false,Bool.and_eq_false_iff];by_cases h1:h=l
       ·exact .inr (decide_eq_false fun h2=>hboth ⟨h1,Option.some.inj h2⟩)
       ·exact .inl (decide_eq_false h1)
     have hb2:h=l→m=j→False:=fun a b=>hboth ⟨a,b⟩;clear hb1 hboth;repeat' (first|refine af ?_ ?_|(refine aa 0 rfl ?_;refine sx (cl (ks:=[3]) rfl rfl) ?_)|(refine aa 9 rfl ?_;first|(refine cB [] (kL) ?_)|(refine cB [] (kH) ?_)|(refine cB [] (kW) ?_)|(refine cH (qf [(9,3)]) (kT) ?_)|(refine cB [] (kC) ?_)|(refine cB [] (kJ) ?_))|refine ae ?_|exact ah|(refine ab fun hb=>?_;first|(first|(exfalso;omega)|exact (hb2 (by assumption) (by assumption)).elim)|skip)|exact bB|fail)
    obtain ⟨rfl,rfl⟩:=hboth;have hb1:(!q.waits.any fun y=>decide (y.proc=x.proc) && !decide (y.prio=x.req.prio))=b:=by
     rw [hb1,decide_eq_true rfl,decide_eq_true rfl];cases q.waits.any (fun y=>decide (y.proc=x.proc) && !decide (y.prio=x.req.prio)) <;> rfl
    repeat' (first|refine af ?_ ?_|(refine aa 0 rfl ?_;refine sx (cl (ks:=[3]) rfl rfl) ?_)|(refine aa 9 rfl ?_;first|(refine cB [] (kL) ?_)|(refine cB [] (kH) ?_)|(refine cB [] (kW) ?_)|(refine cH (qf [(9,3)]) (kT) ?_)|(refine cB [] (kC) ?_)|(refine cB [] (kJ) ?_))|refine ae ?_|exact ah|(refine ab fun hb=>?_;first|(first|(exfalso;omega)|exact absurd rfl hb)|skip))
    refine ak (fun i=>i≤q.waits.length∧(!(q.waits.drop i).any fun y=>decide (y.proc=x.proc) && !decide (y.prio=x.req.prio))=b) (fun i=>cq [4] [(4,.c (.ptr 4 0)),(78,.c (.sl fJ q.waits)),(79,.i q.waits.length),(80,.i i)] [(4,.box 66 (x.d d))]) (fun i=>q.waits.length-i) 0 ⟨Nat.zero_le _,hb1⟩ a7 ?_;clear hb1 kT kL kH kW kC kJ;rintro i ⟨hi2,hs⟩;by_cases hlt:i<q.waits.length
    ·obtain ⟨y,hy⟩:∃y,q.waits[i]=y:=⟨_,rfl⟩;have hgy:q.waits[i]? = some y:=by rw [List.getElem?_eq_getElem hlt,hy]
     rw [List.drop_eq_getElem_cons hlt,hy,List.any_cons] at hs;have kP:=g4 y.proc x.proc;obtain ⟨e,he⟩:∃e,bC y.proc x.proc=e:=⟨_,rfl⟩;rw [he] at kP;have hpe:y.proc=x.proc↔e=0:=by rw [←he];exact (jw _ _).symm
     by_cases hbad:e=0∧y.prio≠x.req.prio
     ·obtain rfl:b=false:=by rw [←hs,decide_eq_true (hpe.2 hbad.1),decide_eq_false hbad.2];rfl
      obtain ⟨hb3,hb4⟩:=hbad;repeat' (first|refine af ?_ ?_|refine aa 9 rfl (cB [] (kP) ?_)|refine ae ?_|exact ah|(refine ab fun hb=>?_;first|(first|exact absurd hb3 hb|exact absurd hb hb4)|skip)|exact bB|fail)
     ·have hs:(!(q.waits.drop (i+1)).any fun y=>decide (y.proc=x.proc) && !decide (y.prio=x.req.prio))=b:=by
       rw [←hs];by_cases h1:e=0
       ·rw [decide_eq_true (hpe.2 h1),decide_eq_true (Classical.byContradiction fun h2=>hbad ⟨h1,h2⟩)];rfl
       ·rw [decide_eq_false (fun h2=>h1 (hpe.1 h2))];rfl
      have hb2:e=0→y.prio≠x.req.prio→False:=fun a b=>hbad ⟨a,b⟩;clear hbad;repeat' (first|refine af ?_ ?_|refine aa 9 rfl (cB [] (kP) ?_)|refine ae ?_|exact ah|(refine ab fun hb=>?_;first|(exact (hb2 (by assumption) (by assumption)).elim)|skip))
      all_goals (refine ⟨i+1,⟨by omega,hs⟩,by omega,?_⟩;exact a7)
    ·rw [List.drop_eq_nil_of_le (by omega)] at hs;obtain rfl:true=b:=hs;repeat' (first|refine af ?_ ?_|refine ae ?_|exact ah|refine ab fun hb=>?_|exact bB|fail)
theorem Jq (a b:List Tm):FSpec prog 115 [.one (.sl c7 a),.one (.sl c7 b)] [] [] (.b (decide (a=b))) []:=by
 refine aT func115 ?_;refine bd (fun c ρ a w hr=>cV (t:=0) hr rfl) (fun hl0=>?_);by_cases hl:a.length=b.length
 case neg =>
  have hne:a≠b:=fun e=>hl (by rw [e]);rw [decide_eq_false hne];repeat' (first|refine af ?_ ?_|refine ae ?_|exact ah|refine ab fun hb=>?_|exact bB|fail)
 repeat' (first|refine af ?_ ?_|refine ae ?_|exact ah|refine ab fun hb=>?_)
 refine ak (fun i=>i≤a.length∧((a=b)↔a.drop i=b.drop i)) (fun i=>cq [] [(0,.c (.sl c7 a)),(1,.c (.sl c7 b)),(12,.i a.length),(13,.i i)] []) (fun i=>a.length-i) 0 ⟨Nat.zero_le _,Iff.rfl⟩ a7 ?_;rintro i ⟨hi,hs⟩;by_cases hlt:i<a.length
 ·have hlt2:i<b.length:=by omega
  rw [List.drop_eq_getElem_cons hlt,List.drop_eq_getElem_cons hlt2,List.cons.injEq] at hs;obtain ⟨x,hx⟩:∃x,a[i]? = some x:=⟨_,List.getElem?_eq_getElem hlt⟩;obtain ⟨y,hy⟩:∃y,b[i]? = some y:=⟨_,List.getElem?_eq_getElem hlt2⟩;have ex:a[i]=x:=(List.getElem?_eq_some_iff.1 hx).2;have ey:b[i]=y:=(List.getElem?_eq_some_iff.1 hy).2;rw [ex,ey] at hs;clear ex ey;by_cases he:x=y
  ·subst he;repeat' (first|refine af ?_ ?_|refine ae ?_|exact ah|(refine ab fun hb=>?_;first|(exact absurd rfl hb)|skip))
   refine ⟨i+1,⟨by omega,?_⟩,by omega,?_⟩
   ·rw [hs];simp
   ·exact a7
  ·rw [decide_eq_false (fun e=>he (hs.1 e).1)];repeat' (first|refine af ?_ ?_|refine ae ?_|exact ah|(refine ab fun hb=>?_;first|(exact absurd hb he)|skip)|exact bB|fail)
 ·rw [List.drop_eq_nil_of_le (by omega),List.drop_eq_nil_of_le (by omega)] at hs;rw [decide_eq_true (hs.2 rfl)];repeat' (first|refine af ?_ ?_|refine ae ?_|exact ah|refine ab fun hb=>?_|exact bB|fail)
theorem Dq (d:Nat) (c:Cs) (x:Pc) (hV:dl c.queues=true) (hg:sQ x.led=true) {b:Bool} (hB:G0 c x=b):FSpec prog 69 [c.a d,x.a d] [] [] (.b b) []:=by
 refine aT func69 ?_;have hq8:=(bE hV).1;have kZ:=GW d x.req rfl;have kC:=Cu c.queues x.proc (by omega) fun q hq=>cR (cj hV hq);have kO:=GA c.queues x.proc (by omega);have kH:=Dm x.led (gv hg).1 rfl;have kE:=Jq (eI c.queues x.proc) (eH x.led);have he:decide (eH x.led=eI c.queues x.proc)=decide (eI c.queues x.proc=eH x.led):=decide_eq_decide.2 eq_comm;repeat' (first|refine af ?_ ?_|(refine aa 9 rfl ?_;first|(refine cB [] (kZ) ?_)|(refine cC [] (kC) ?_)|(refine cC [] (kO) ?_)|(refine cC [] (kH) ?_)|(refine cB [] (kE) ?_))|refine ae ?_|exact ah|refine ab fun hb=>?_)
 all_goals (refine fm ?_;rw [←hB];simp [G0, *];try (first|(intro _;refine List.eq_nil_of_length_eq_zero ?_;omega)|(intro _ h0;have:=congrArg List.length h0;simp only [List.length_nil] at this;omega)))
theorem Dr (d:Nat) (c:Cs) (x:Pc) (hn:0≤c.now∧c.now≤1073741824) (hV:dl c.queues=true) {b:Bool} (hB:Dn c x=b):FSpec prog 68 [c.a d,x.a d] [] [] (.b b) []:=by
 refine aT func68 ?_;have hq8:=(bE hV).1;unfold Dn at hB;have kC:=FB c.queues (by omega);obtain ⟨rq,hrq⟩:∃rq,sV x.req=rq:=⟨_,rfl⟩;have kQ:=qk d x.req hrq;rw [hrq] at hB;cases rq with
 | false =>
  obtain rfl:b=false:=by rw [←hB];rfl
  repeat' (first|refine af ?_ ?_|refine aa 9 rfl (cB [] (kQ) ?_)|refine ae ?_|exact ah|refine ab fun hb=>?_|exact bB|fail)
 | true =>
  obtain ⟨e,he⟩:∃e,iP c.queues x.req.expr=e:=⟨_,rfl⟩;have kR:=wO d c.queues x.req.expr hV he;rw [he] at hB;by_cases h0:e=0
  case neg =>
   obtain rfl:b=false:=by rw [←hB,decide_eq_false h0];rfl
   repeat' (first|refine af ?_ ?_|(refine aa 9 rfl ?_;first|(refine cB [] (kQ) ?_)|(refine cC [] (kC) ?_)|(refine cB [] (kR) ?_))|refine ae ?_|exact ah|(refine ab fun hb=>?_;first|(exact absurd hb h0)|skip)|exact bB|fail)
  subst h0;have hlim:0≤x.req.limit∧x.req.limit≤1000:=by
   unfold sV at hrq;simp only [Bool.and_eq_true,decide_eq_true_eq] at hrq;exact ⟨hrq.1.2,hrq.2⟩
  have hv:kf x.req.expr=true:=by unfold sV at hrq;simp only [Bool.and_eq_true] at hrq;exact hrq.1.1.1.1
  have hgl:(bo c.queues x.proc x.req.expr).length≤1000:=by have:=dQ x.req.expr;simp [bo];omega
  obtain ⟨G,hG⟩:∃G,bo c.queues x.proc x.req.expr=G:=⟨_,rfl⟩;have kGr:=mf d c.queues x hG;rw [hG] at hgl hB;obtain ⟨ho,hho⟩:∃ho,dE x.req.expr G=ho:=⟨_,rfl⟩;have kHo:=zm d x.req.expr G hgl hho;rw [hho] at hB;have hnd:=(CB hv);have hT8:=dQ x.req.expr;obtain ⟨T,hT⟩:∃T,cJ x.req.expr=T:=⟨_,rfl⟩;rw [hT] at hB hnd hT8;have kAt:=iC d x.req.expr hT;by_cases hsn:0≤x.since∧x.since≤c.now
  case neg =>
   obtain rfl:b=false:=by rw [←hB];by_cases h:0≤x.since <;> simp [h] <;> omega
   by_cases h9:x.since<0
   ·repeat' (first|refine af ?_ ?_|(refine aa 9 rfl ?_;first|(refine cB [] (kQ) ?_)|(refine cC [] (kC) ?_)|(refine cB [] (kR) ?_))|refine ae ?_|exact ah|refine ab fun hb=>?_|exact bB|fail)
   ·repeat' (first|refine af ?_ ?_|(refine aa 9 rfl ?_;first|(refine cB [] (kQ) ?_)|(refine cC [] (kC) ?_)|(refine cB [] (kR) ?_))|refine ae ?_|exact ah|refine ab fun hb=>?_|exact bB|fail)
  obtain ⟨hs1,hs2⟩:=hsn;rw [decide_eq_true hs1,decide_eq_true hs2] at hB;simp only [decide_true,Bool.true_and] at hB;by_cases hli:x.req.limit=0∨c.now<x.since+x.req.limit
  case neg =>
   obtain rfl:b=false:=by rw [←hB,decide_eq_false (fun h=>hli (.inl h)),decide_eq_false (fun h=>hli (.inr h))];rfl
   rw [not_or] at hli;obtain ⟨hl1,hl2⟩:=hli;repeat' (first|refine af ?_ ?_|(refine aa 9 rfl ?_;first|(refine cB [] (kQ) ?_)|(refine cC [] (kC) ?_)|(refine cB [] (kR) ?_))|refine ae ?_|exact ah|(refine ab fun hb=>?_;first|(exact absurd hb hl1)|skip)|exact bB|fail)
  have hli':(decide (x.req.limit=0) || decide (c.now<x.since+x.req.limit))=true:=by simpa using hli
  rw [hli',Bool.true_and] at hB;cases ho with
  | true =>
   obtain rfl:b=false:=by rw [←hB];rfl
   by_cases hl2:x.req.limit=0
   ·repeat' (first|refine af ?_ ?_|(refine aa 9 rfl ?_;first|(refine cB [] (kQ) ?_)|(refine cC [] (kC) ?_)|(refine cB [] (kR) ?_)|(refine cC [] (kGr) ?_)|(refine cB [] (kHo) ?_))|refine ae ?_|exact ah|(refine ab fun hb=>?_;first|(exact absurd hl2 hb)|skip)|exact bB|fail)
   ·repeat' (first|refine af ?_ ?_|(refine aa 9 rfl ?_;first|(refine cB [] (kQ) ?_)|(refine cC [] (kC) ?_)|(refine cB [] (kR) ?_)|(refine cC [] (kGr) ?_)|(refine cB [] (kHo) ?_))|refine ae ?_|exact ah|(refine ab fun hb=>?_;first|(exact absurd hb hl2)|skip)|exact bB|fail)
  | false =>
   rw [Bool.not_false,Bool.true_and] at hB;obtain ⟨F,hF⟩:∃F:Qu→Bool,(fun q=>cN q x T)=F:=⟨_,rfl⟩;have hF':∀q,cN q x T=F q:=fun q=>congrFun hF q;have h88:∀q∈c.queues,fy q:=fun q hq=>cR (cj hV hq);rw [hF] at hB;by_cases hl2:x.req.limit=0
   case' pos =>
    repeat' (first|refine af ?_ ?_|(refine aa 9 rfl ?_;first|(refine cB [] (kQ) ?_)|(refine cC [] (kC) ?_)|(refine cB [] (kR) ?_)|(refine cC [] (kGr) ?_)|(refine cB [] (kHo) ?_)|(refine cC [] (kAt) ?_))|refine ae ?_|exact ah|(refine ab fun hb=>?_;first|(exact absurd hl2 hb)|skip))
   case' neg =>
    repeat' (first|refine af ?_ ?_|(refine aa 9 rfl ?_;first|(refine cB [] (kQ) ?_)|(refine cC [] (kC) ?_)|(refine cB [] (kR) ?_)|(refine cC [] (kGr) ?_)|(refine cB [] (kHo) ?_)|(refine cC [] (kAt) ?_))|refine ae ?_|exact ah|(refine ab fun hb=>?_;first|(exact absurd hb hl2)|skip))
   all_goals
    refine ak (fun i=>i≤c.queues.length∧(c.queues.all F=(c.queues.drop i).all F)) (fun i=>cq [3] [(3,.c (.ptr 3 0)),(6,.c (.sl c7 T)),(59,.c (.sl eX c.queues)),(60,.i c.queues.length),(61,.i i)] [(3,.box 66 (x.d d))]) (fun i=>c.queues.length-i) 0 ⟨Nat.zero_le _,rfl⟩ a7 ?_;clear kAt kHo kGr kR kC kQ hli' hli hs1 hs2 hlim hgl hho hG;rintro i ⟨hi,hs⟩;by_cases hlt:i<c.queues.length
    ·obtain ⟨q,hq⟩:∃q,c.queues[i]? = some q:=⟨_,List.getElem?_eq_getElem hlt⟩;have eq:c.queues[i]=q:=(List.getElem?_eq_some_iff.1 hq).2;obtain ⟨_,j2,j3⟩:=h88 q (eq▸List.getElem_mem hlt);rw [List.drop_eq_getElem_cons hlt,eq,List.all_cons] at hs;obtain ⟨f,hff⟩:∃f,F q=f:=⟨_,rfl⟩;have kP:=Fc d q x T hnd (by omega) j2 j3 ((hF' q).trans hff);rw [hff] at hs;cases f with
     | false =>
      obtain rfl:b=false:=by rw [←hB,hs];rfl
      repeat' (first|refine af ?_ ?_|refine aa 9 rfl (cB [] (kP) ?_)|refine ae ?_|exact ah|refine ab fun hb=>?_|exact bB|fail)
     | true =>
      repeat' (first|refine af ?_ ?_|refine aa 9 rfl (cB [] (kP) ?_)|refine ae ?_|exact ah|refine ab fun hb=>?_)
      refine ⟨i+1,⟨by omega,?_⟩,by omega,?_⟩
      ·rw [hs,Bool.true_and]
      ·exact a7
    ·rw [List.drop_eq_nil_of_le (by omega),List.all_nil] at hs;obtain rfl:b=true:=by rw [←hB,hs]
     repeat' (first|refine af ?_ ?_|refine ae ?_|exact ah|refine ab fun hb=>?_|exact bB|fail)
theorem G1 (d:Nat) (l:List Pc) (p:Pr) {z:Int} (hz:cD p 0 l=z):FSpec prog 56 [.one (.sl (fu d) l),.one (.clo 57 [9])] [iK 9 p] [] (.i z) [(9,some (iK 9 p).2)]:=by
 refine aT func56 ?_;refine bd (fun c ρ a w hr=>cV (t:=0) hr rfl) (fun hl0=>?_);repeat' (first|refine af ?_ ?_|refine ae ?_|exact ah|refine ab fun hb=>?_)
 refine ak (fun i=>i≤l.length∧cD p i (l.drop i)=z) (fun i=>cq [9] [(0,.c (.sl (fu d) l)),(1,.c (.clo 57 [9])),(7,.i l.length),(8,.i i)] [iK 9 p]) (fun i=>l.length-i) 0 ⟨Nat.zero_le _,hz⟩ a7 ?_;rintro i ⟨hi,hs⟩;by_cases hlt:i<l.length
 ·obtain ⟨x,hx⟩:∃x,l[i]=x:=⟨_,rfl⟩;have hgx:l[i]? = some x:=by rw [List.getElem?_eq_getElem hlt,hx]
  rw [List.drop_eq_getElem_cons hlt,hx] at hs;have hs:(bif decide (x.proc=p) then (i:Int) else cD p (i+1) (l.drop (i+1)))=z:=hs;obtain ⟨b,hb1⟩:∃b,decide (x.proc=p)=b:=⟨_,rfl⟩;have kS:=FC d x p hb1;rw [hb1] at hs;cases b with
  | true =>
   obtain rfl:(i:Int)=z:=hs;repeat' (first|refine af ?_ ?_|(refine aa 9 rfl ?_;refine jW 1 [9] (qf [(9,9)]) (kS) ?_)|refine ae ?_|exact ah|refine ab fun hb=>?_|exact bB|fail)
  | false =>
   repeat' (first|refine af ?_ ?_|(refine aa 9 rfl ?_;refine jW 1 [9] (qf [(9,9)]) (kS) ?_)|refine ae ?_|exact ah|refine ab fun hb=>?_)
   refine ⟨i+1,⟨by omega,hs⟩,by omega,?_⟩;exact a7
 ·rw [List.drop_eq_nil_of_le (by omega)] at hs;obtain rfl : -1=z:=hs;repeat' (first|refine af ?_ ?_|refine ae ?_|exact ah|refine ab fun hb=>?_|exact bB|fail)
theorem uP (d:Nat) (l:List Pc) (p:Pr) {z:Int} (hz:cD p 0 l=z):FSpec prog 33 [.one (.sl (fu d) l),p.a] [] [] (.i z) []:=by
 refine aT func33 ?_;have kF:=G1 d l p hz;repeat' (first|refine af ?_ ?_|(refine aa 0 rfl ?_;refine sx (cl (ks:=[3]) rfl rfl) ?_)|refine aa 9 rfl (cH (qf [(9,3)]) (kF) ?_)|refine ae ?_|exact ah|refine ab fun hb=>?_|exact bB|fail)
theorem A5 (d:Nat) (c:Cs) (x:Pc) (hn:0≤c.now∧c.now≤1073741824) (hV:dl c.queues=true) {b:Bool} (hB:nu c x=b):FSpec prog 37 [c.a d,x.a d] [] [] (.b b) []:=by
 refine aT func37 ?_;have hq8:=(bE hV).1;rw [Do] at hB;have kV:=eZ x.proc;have kG:=c6 x.led;obtain ⟨v,hv⟩:∃v,j8 x.proc=v:=⟨_,rfl⟩;rw [hv] at kV;cases v with
 | false =>
  obtain rfl:b=false:=by rw [←hB,hv];rfl
  repeat' (first|refine af ?_ ?_|refine aa 9 rfl (cB [] (kV) ?_)|refine ae ?_|exact ah|refine ab fun hb=>?_|exact bB|fail)
 | true =>
  by_cases h1:1≤x.cost∧x.cost≤1000
  case neg =>
   obtain rfl:b=false:=by rw [←hB,show decide (1≤x.cost) = !decide (x.cost<1) by by_cases h:x.cost<1 <;> simp [h] <;> omega];by_cases h:x.cost<1 <;> simp [h] <;> omega
   by_cases h2:x.cost<1
   ·repeat' (first|refine af ?_ ?_|refine aa 9 rfl (cB [] (kV) ?_)|refine ae ?_|exact ah|refine ab fun hb=>?_|exact bB|fail)
   ·repeat' (first|refine af ?_ ?_|refine aa 9 rfl (cB [] (kV) ?_)|refine ae ?_|exact ah|refine ab fun hb=>?_|exact bB|fail)
  obtain ⟨h1,h2⟩:=h1;rw [hv,decide_eq_true h1,decide_eq_true h2] at hB;by_cases h3:0≤x.gen∧x.gen≤1073741824
  case neg =>
   obtain rfl:b=false:=by rw [←hB];by_cases h:0≤x.gen <;> simp [h] <;> omega
   by_cases h4:x.gen<0
   ·repeat' (first|refine af ?_ ?_|refine aa 9 rfl (cB [] (kV) ?_)|refine ae ?_|exact ah|refine ab fun hb=>?_|exact bB|fail)
   ·repeat' (first|refine af ?_ ?_|refine aa 9 rfl (cB [] (kV) ?_)|refine ae ?_|exact ah|refine ab fun hb=>?_|exact bB|fail)
  obtain ⟨h3,h4⟩:=h3;rw [decide_eq_true h3,decide_eq_true h4] at hB;obtain ⟨g,hg⟩:∃g,sQ x.led=g:=⟨_,rfl⟩;rw [hg] at kG hB;cases g with
  | false =>
   obtain rfl:b=false:=by rw [←hB];rfl
   repeat' (first|refine af ?_ ?_|(refine aa 9 rfl ?_;first|(refine cB [] (kV) ?_)|(refine cB [] (kG) ?_))|refine ae ?_|exact ah|refine ab fun hb=>?_|exact bB|fail)
  | true =>
   simp only [Bool.true_and] at hB;obtain ⟨L,hL⟩:∃L,eH x.led=L:=⟨_,rfl⟩;have kH:=Dm x.led (gv hg).1 hL;have hL8:L.length≤8:=by
    rw [←hL];unfold eH;exact Nat.le_trans (List.length_filter_le _ _) (by rw [List.length_map];exact (fc.1 hg).nms)
   rw [hL] at hB;repeat' (first|refine af ?_ ?_|(refine aa 9 rfl ?_;first|(refine cB [] (kV) ?_)|(refine cB [] (kG) ?_)|(refine cC [] (kH) ?_))|refine ae ?_|exact ah|refine ab fun hb=>?_)
   refine ak (fun i=>i≤L.length∧(L.all (GZ c)=(L.drop i).all (GZ c))) (fun i=>cq [2,3] [(2,.c (.ptr 2 0)),(3,.c (.ptr 3 0)),(38,.c (.sl c7 L)),(39,.i L.length),(40,.i i)] [(2,.box 32 (c.d d)),(3,.box 66 (x.d d))]) (fun i=>L.length-i) 0 ⟨Nat.zero_le _,rfl⟩ a7 ?_;rintro i ⟨hi,hs⟩;by_cases hlt:i<L.length
   ·obtain ⟨a,ha⟩:∃a,L[i]? = some a:=⟨_,List.getElem?_eq_getElem hlt⟩;have ea:L[i]=a:=(List.getElem?_eq_some_iff.1 ha).2;rw [List.drop_eq_getElem_cons hlt,ea,List.all_cons] at hs;by_cases hk:bR a.name 0 c.queues<0
    ·have hf:GZ c a=false:=by unfold GZ aS;rw [decide_eq_false (by omega)];rfl
     obtain rfl:b=false:=by rw [←hB,hs,hf];rfl
     have kF:=gj c.queues a.name rfl;repeat' (first|refine af ?_ ?_|refine aa 9 rfl (cB [] (kF) ?_)|refine ae ?_|exact ah|refine ab fun hb=>?_|exact bB|fail)
    ·obtain ⟨j,hj,hF,hqa,hx⟩:=fQ hk;have kF:=gj c.queues a.name hF;obtain ⟨q,hq⟩:∃q,c.queues[j]? = some q:=⟨_,List.getElem?_eq_getElem hj⟩;have eq:c.queues[j]=q:=(List.getElem?_eq_some_iff.1 hq).2;have hf:GZ c a=aC q.res a.am:=by
      unfold GZ aS a6;rw [hqa,eq,decide_eq_true (by omega)];rfl
     have kR:=dy q.res a.am;obtain ⟨f,hff⟩:∃f,aC q.res a.am=f:=⟨_,rfl⟩;rw [hff] at kR hf;rw [hf] at hs;clear hF hk hqa hx;cases f with
     | false =>
      obtain rfl:b=false:=by rw [←hB,hs];rfl
      repeat' (first|refine af ?_ ?_|(refine aa 9 rfl ?_;first|(refine cB [] (kF) ?_)|(refine cB [] (kR) ?_))|refine ae ?_|exact ah|refine ab fun hb=>?_|exact bB|fail)
     | true =>
      repeat' (first|refine af ?_ ?_|(refine aa 9 rfl ?_;first|(refine cB [] (kF) ?_)|(refine cB [] (kR) ?_))|refine ae ?_|exact ah|refine ab fun hb=>?_)
      refine ⟨i+1,⟨by omega,?_⟩,by omega,?_⟩
      ·rw [hs,Bool.true_and]
      ·exact a7
   rw [List.drop_eq_nil_of_le (by omega),List.all_nil] at hs;rw [hs,Bool.true_and] at hB;clear hs kH kG kV;cases hw:x.waiting with
   | false =>
    rw [hw,Bool.not_false,cond_true] at hB;have kR:=Dq d c x hV hg hB;repeat' (first|refine af ?_ ?_|refine aa 9 rfl (cB [] (kR) ?_)|refine ae ?_|exact ah|(refine ab fun hb=>?_;first|(cases hw.symm.trans hb;done)|skip)|exact bB|fail)
   | true =>
    rw [hw,Bool.not_true,cond_false] at hB;have kW:=Dr d c x hn hV hB;repeat' (first|refine af ?_ ?_|refine aa 9 rfl (cB [] (kW) ?_)|refine ae ?_|exact ah|(refine ab fun hb=>?_;first|(cases hw.symm.trans hb;done)|skip)|exact bB|fail)
theorem oo (d:Nat) (c:Cs) {b:Bool} (hB:cM c=b):FSpec prog 14 [c.a d] [] [] (.b b) []:=by
 refine aT func14 ?_;unfold cM at hB;have kV:=ol c.queues;obtain ⟨v,hv⟩:∃v,dl c.queues=v:=⟨_,rfl⟩;rw [hv] at kV;by_cases h1:0≤c.now∧c.now≤1073741824
 case neg =>
  obtain rfl:b=false:=by rw [←hB];by_cases h:0≤c.now <;> simp [h] <;> omega
  by_cases h2:c.now<0
  ·repeat' (first|refine af ?_ ?_|refine ae ?_|exact ah|refine ab fun hb=>?_|exact bB|fail)
  ·repeat' (first|refine af ?_ ?_|refine ae ?_|exact ah|refine ab fun hb=>?_|exact bB|fail)
 have hn:=h1;obtain ⟨h1,h2⟩:=h1;rw [hv,decide_eq_true h1,decide_eq_true h2] at hB;cases v with
 | false =>
  obtain rfl:b=false:=by rw [←hB];rfl
  repeat' (first|refine af ?_ ?_|refine aa 9 rfl (cB [] (kV) ?_)|refine ae ?_|exact ah|refine ab fun hb=>?_|exact bB|fail)
 | true =>
  have hp8:=bE hv;by_cases h8:c.procs.length≤8
  case neg =>
   obtain rfl:b=false:=by rw [←hB,decide_eq_false h8];rfl
   repeat' (first|refine af ?_ ?_|refine aa 9 rfl (cB [] (kV) ?_)|refine ae ?_|exact ah|refine ab fun hb=>?_|exact bB|fail)
  rw [decide_eq_true h8] at hB;simp only [Bool.true_and] at hB;obtain ⟨L,hL⟩:∃L,aB c.queues=L:=⟨_,rfl⟩;have kP:=uq c.queues (by omega) (fun q hq=>cR (cj hv hq));have hLl:L.length≤8:=by rw [←hL];exact hp8.2.2
  rw [hL] at kP hB;obtain ⟨G,hG⟩:∃G:Pr→Bool,(fun p=>decide (0≤cD p 0 c.procs))=G:=⟨_,rfl⟩;have hG':∀p,decide (0≤cD p 0 c.procs)=G p:=fun p=>congrFun hG p;rw [hG,Bool.and_comm] at hB;obtain ⟨T,hT⟩:∃T,L.all G=T:=⟨_,rfl⟩;rw [hT] at hB;repeat' (first|refine af ?_ ?_|refine aa 9 rfl (cB [] (kV) ?_)|refine ae ?_|exact ah|refine ab fun hb=>?_)
  refine ak (fun y:Nat×Option Pr=>y.1≤c.procs.length∧(y.1=0∧y.2=none∨0<y.1∧∃z,c.procs[((y.1:Int)-1).toNat]? = some z∧y.2=some z.proc)∧(vW c y.2 (c.procs.drop y.1) && T)=b) (fun y=>cq [1] [(1,.c (.ptr 1 0)),(28,.c (.sl (fu d) c.procs)),(29,.i c.procs.length),(30,.i y.1)] [(1,.box 32 (c.d d))]) (fun y=>c.procs.length-y.1) (0,none) ⟨Nat.zero_le _,.inl ⟨rfl,rfl⟩,hB⟩ a7 ?_;clear hB;rintro ⟨i,o⟩ ⟨hi,ho,hs⟩;dsimp only at *
  by_cases hlt:i<c.procs.length
  ·obtain ⟨x,hx⟩:∃x,c.procs[i]? = some x:=⟨_,List.getElem?_eq_getElem hlt⟩;have ex:c.procs[i]=x:=(List.getElem?_eq_some_iff.1 hx).2;rw [List.drop_eq_getElem_cons hlt,ex,A4] at hs;obtain ⟨pb,hpb⟩:∃pb,nu c x=pb:=⟨_,rfl⟩;have kX:=A5 d c x hn hv hpb;rw [hpb] at hs;clear kP;rcases ho with ⟨h0,rfl⟩|⟨h0,z,hz,rfl⟩
   ·rw [show Fo none x.proc=true from rfl,Bool.and_true] at hs;cases pb with
    | false =>
     obtain rfl:b=false:=hs.symm;repeat' (first|refine af ?_ ?_|refine aa 9 rfl (cB [] (kX) ?_)|refine ae ?_|exact ah|(refine ab fun hb=>?_;first|(exfalso;omega)|skip)|exact bB|fail)
    | true =>
     rw [Bool.true_and] at hs;repeat' (first|refine af ?_ ?_|refine aa 9 rfl (cB [] (kX) ?_)|refine ae ?_|exact ah|(refine ab fun hb=>?_;first|(exfalso;omega)|skip))
     refine ⟨(i+1,some x.proc),⟨by dsimp only;omega,.inr ⟨by dsimp only;omega,x,?_,rfl⟩,hs⟩,by dsimp only;omega,?_⟩
     ·dsimp only;rw [←hx];congr 1
      omega
     ·exact a7
   ·have kC:=g4 z.proc x.proc;obtain ⟨e,he⟩:∃e,bC z.proc x.proc=e:=⟨_,rfl⟩;rw [show Fo (some z.proc) x.proc=decide (bC z.proc x.proc<0) from rfl,he] at hs;rw [he] at kC;by_cases hneg:e<0
    case neg =>
     obtain rfl:b=false:=by rw [←hs,decide_eq_false hneg,Bool.and_false];rfl
     repeat' (first|refine af ?_ ?_|refine aa 9 rfl (cB [] (kC) ?_)|refine ae ?_|exact ah|(refine ab fun hb=>?_;first|(exfalso;omega)|skip)|exact bB|fail)
    rw [decide_eq_true hneg,Bool.and_true] at hs;cases pb with
    | false =>
     obtain rfl:b=false:=hs.symm;repeat' (first|refine af ?_ ?_|(refine aa 9 rfl ?_;first|(refine cB [] (kC) ?_)|(refine cB [] (kX) ?_))|refine ae ?_|exact ah|(refine ab fun hb=>?_;first|(exfalso;omega)|skip)|exact bB|fail)
    | true =>
     rw [Bool.true_and] at hs;repeat' (first|refine af ?_ ?_|(refine aa 9 rfl ?_;first|(refine cB [] (kC) ?_)|(refine cB [] (kX) ?_))|refine ae ?_|exact ah|(refine ab fun hb=>?_;first|(exfalso;omega)|skip))
     refine ⟨(i+1,some x.proc),⟨by dsimp only;omega,.inr ⟨by dsimp only;omega,x,?_,rfl⟩,hs⟩,by dsimp only;omega,?_⟩
     ·dsimp only;rw [←hx];congr 1
      omega
     ·exact a7
  rw [List.drop_eq_nil_of_le (by omega)] at hs;have hs:T=b:=by rw [←hs];rfl
  rw [←hT] at hs;clear hT ho;repeat' (first|refine af ?_ ?_|refine aa 9 rfl (cC [] (kP) ?_)|refine ae ?_|exact ah|refine ab fun hb=>?_)
  refine ak (fun i=>i≤L.length∧(L.drop i).all G=b) (fun i=>cq [1] [(1,.c (.ptr 1 0)),(57,.c (.sl jx L)),(58,.i L.length),(59,.i i)] [(1,.box 32 (c.d d))]) (fun i=>L.length-i) 0 ⟨Nat.zero_le _,hs⟩ a7 ?_;clear hs kP hi hlt;rintro i ⟨hi,hs⟩;by_cases hlt:i<L.length
  ·obtain ⟨p,hp⟩:∃p,L[i]? = some p:=⟨_,List.getElem?_eq_getElem hlt⟩;have ep:L[i]=p:=(List.getElem?_eq_some_iff.1 hp).2;rw [List.drop_eq_getElem_cons hlt,ep,List.all_cons] at hs;obtain ⟨ix,hix⟩:∃ix,cD p 0 c.procs=ix:=⟨_,rfl⟩;have kI:=uP d c.procs p hix;have hgp:=hG' p;rw [hix] at hgp;by_cases h0:0≤ix
   ·rw [decide_eq_true h0] at hgp;rw [←hgp,Bool.true_and] at hs;repeat' (first|refine af ?_ ?_|refine aa 9 rfl (cB [] (kI) ?_)|refine ae ?_|exact ah|(refine ab fun hb=>?_;first|(exfalso;omega)|skip))
    refine ⟨i+1,⟨by omega,hs⟩,by omega,?_⟩;exact a7
   ·rw [decide_eq_false h0] at hgp;obtain rfl:b=false:=by rw [←hs,←hgp];rfl
    repeat' (first|refine af ?_ ?_|refine aa 9 rfl (cB [] (kI) ?_)|refine ae ?_|exact ah|(refine ab fun hb=>?_;first|(exfalso;omega)|skip)|exact bB|fail)
  ·rw [List.drop_eq_nil_of_le (by omega)] at hs;obtain rfl:b=true:=hs.symm;repeat' (first|refine af ?_ ?_|refine ae ?_|exact ah|refine ab fun hb=>?_|exact bB|fail)
end Go.Proofs.YtcgpepnbohejfaaGreatDoor
