/- Part K33 of a proof of statements of chapter 15 (no condition). -/
import Derived.Test.YtkkbopkbjacfmaaGreatDoorK26
import Derived.Test.YtkkbopkbjacfmaaGreatDoorK30
set_option linter.unusedVariables false
set_option linter.unusedSimpArgs false
set_option maxRecDepth 100000
set_option maxHeartbeats 64000000
namespace Go.Proofs.YtkkbopkbjacfmaaGreatDoor
open Go.RowKit Go.Proofs.Tryz
theorem Ls (t:List Qu) (p:Pr) (a:Tm) (prio:Int) {R:List Qu×List Ev×Int} (hR:b9 t p a prio=R):FSpec prog 269 [.one (.sl ic t),p.a,a.a,.one (.sc (.int .i64 prio))] [] [] (NF R) []:=by
 refine aS func269 ?_;cases hV:eV t with
 | false =>
  obtain rfl:R=fY 2:=by rw [<-hR];simp [b9,hV]
  have:=dD t;refine ao ?_
  (refine fk (qf []) ?_;exact ak)
 | true =>
  have hm:=(cm hV).1;have h8:∀q∈t,fq q:=fun q hq=>ou (dc hV hq);by_cases hf:bV a.name 0 t<0
  case pos =>
   obtain rfl:R=fY 10:=by rw [<-hR];simp [b9,hV,hf]
   have:=dD t;have:=om t a.name;refine ao ?_
   (refine fk (qf []) ?_;exact ak)
  obtain ⟨i,hi,hF,hq,hx⟩:=gH hf;by_cases hN:(aD t).length=8/\p ∉ aD t
  case pos =>
   obtain ⟨hN1,hN2⟩:=hN;obtain rfl:R=fY 4:=by rw [<-hR];simp [b9,hV,hf,hN1,hN2]
   have:=dD t;have:=du t a.name hF;have:=pu t (by omega) h8;have:=AI (aD t) p;refine ao ?_
   (refine fk (qf []) ?_;exact ak)
  have hS:=dc hV (List.getElem_mem hi);obtain ⟨Q,hQ⟩:=qGe (bO t[i] p a.am prio);have hQl:=vA hS p a.am prio;rw [hQ] at hQl;have hlen:Q.2.1.length<=100000:=by omega
  have hN3:(decide ((aD t).length=8) && !decide (p∈aD t))=false:=by
   rw [Bool.and_eq_false_iff];by_cases h:(aD t).length=8
   ·right
    have:p∈aD t:=Classical.byContradiction fun h2=>hN ⟨h,h2⟩;simp [this]
   ·left;simp [h]
  by_cases he:Q.2.2=0
  ·obtain rfl:R=(t.set i Q.1,bo a.name Q.2.1,0):=by rw [<-hR];unfold b9;rw [hq,hQ,hx,hN3];simp [hV,hf,he]
   clear hN3;have:=dD t;have:=du t a.name hF;have:=pu t (by omega) h8;have:=AI (aD t) p;have:=Eg t[i] p a.am prio hQ;have:=px t i Q.1 hi (by omega);have:=mX a.name Q.2.1 hlen;exact Rv
  ·obtain rfl:R=fY Q.2.2:=by rw [<-hR];unfold b9;rw [hq,hQ,hx,hN3];simp [hV,hf,he]
   clear hN3;have:=dD t;have:=du t a.name hF;have:=pu t (by omega) h8;have:=AI (aD t) p;have:=Eg t[i] p a.am prio hQ;exact Rv
theorem IL (t:List Qu) (p:Pr) {R:List Qu×List Ev} (hR:bM t p=R):FSpec prog 278 [.one (.sl ic t),p.a] [] [] (.tup [.one (.sl ic R.1),.one (.sl sR R.2)]) []:=by
 refine aS func278 ?_;cases hV:eV t with
 | false =>
  obtain rfl:R=([],[]):=by rw [<-hR];simp [bM,hV]
  have:=dD t;refine ao ?_
  (refine gG (qf []) ?_;exact ak)
 | true =>
  have hm:=(cm hV).1;have hR2:aU p t=R:=by rw [<-hR];simp [bM,hV]
  have:=dD t;refine ao ?_;refine bK 7 1000 355 sR rfl rfl rfl ?_;refine ab (fun x:Nat×List Qu×List Ev=>x.1<=t.length/\x.2.1.length=x.1/\x.2.2.length<=18*x.1/\x.2.1++(aU p (t.drop x.1)).1=R.1/\x.2.2++(aU p (t.drop x.1)).2=R.2) (fun x=>bC [3,1000,1001] [(3,.c (.ptr 3 0)),(6,.c (.own 1001)),(7,.c (.own 1000)),(8,.i x.1)] [(3,.box 42 [.sc (.int .i64 p.site),.sc (.int .i64 p.inc),.sc (.int .i64 p.num)]),(1001,.arr 78 ic (x.2.1++t.drop x.1)),(1000,.arr 355 sR x.2.2)]) (fun x=>t.length-x.1) (0,[],[]) ⟨Nat.zero_le _,rfl,Nat.le_refl _,by rw [<-hR2];rfl,by rw [<-hR2];rfl⟩ (by exact a8 (qf [(1001,17)])) ?_;rintro ⟨i,o,ev⟩ ⟨hi,hol,hel,hs1,hs2⟩;dsimp only at *
  have hlen:(o++t.drop i).length=t.length:=by simp;omega
  by_cases hlt:i<t.length
  ·obtain ⟨q,hq⟩:∃q,q=t[i]:=⟨_,rfl⟩;have gg:(o++t.drop i)[i]? = some q:=by
    rw [List.getElem?_append_right (by omega),hol,Nat.sub_self,List.getElem?_drop];simp [hq,hlt]
   have hS:ai q=true:=dc hV (hq▸List.getElem_mem hlt);rw [qDc hlt,<-hq] at hs1 hs2;have e0:o++t.drop i=(o++[q])++t.drop (i+1):=by rw [qDc hlt,<-hq];simp
   cases hh:dY q p with
   | false =>
    rw [show aU p (q :: t.drop (i+1))=(q :: (aU p (t.drop (i+1))).1,(aU p (t.drop (i+1))).2) by simp [aU,hh]] at hs1 hs2;have:=FV q p;refine ao ?_;refine ⟨(i+1,o++[q],ev),⟨by dsimp only;omega,by simp;omega,by dsimp only;omega,by dsimp only;rw [<-hs1];simp,hs2⟩,by dsimp only;omega,?_⟩;dsimp only;rw [<-e0];exact aL
   | true =>
    obtain ⟨Q,hQ⟩:=qGe (br q p);have hQl:=sV hS p;rw [hQ] at hQl;have hgl:(bo Q.1.res.name Q.2.1).length<=17:=by unfold bo;rw [List.length_map];exact hQl
    have hset:(o++t.drop i).set i Q.1=(o++[Q.1])++t.drop (i+1):=by
     have e9:(t.drop i).set 0 Q.1=Q.1 :: t.drop (i+1):=by rw [qDc hlt];rfl
     rw [List.set_append_right _ _ (by omega),hol,Nat.sub_self,e9];simp
    cases hz:aJ (af q.holds p) with
    | true =>
     rw [show aU p (q :: t.drop (i+1))=(Q.1 :: (aU p (t.drop (i+1))).1,bo Q.1.res.name Q.2.1++(aU p (t.drop (i+1))).2) by simp [aU,hh,hQ,hz]] at hs1 hs2;repeat' (first|refine az ?_ ?_|(refine aa 9 rfl ?_;first|(refine cB [] (FV q p) ?_)|(refine cB [] (eT q p) ?_)|(refine cB [] (eH (af q.holds p)) ?_)|(refine cC [] (vz q p hQ) ?_)|(refine cC [] (mX Q.1.res.name Q.2.1 (by omega)) ?_))|refine ay ?_|(refine aa 4 rfl ?_;refine bW (aM (z:=Q.1) rfl rfl rfl rfl (by first|assumption|exact qGg (by omega)) rfl rfl rfl rfl (qNl rfl) rfl rfl) rfl rfl rfl ?_)|exact aA|refine ax fun hb=>?_)
     refine ⟨(i+1,o++[Q.1],ev++bo Q.1.res.name Q.2.1),⟨by dsimp only;omega,by simp;omega,by simp;omega,by dsimp only;rw [<-hs1];simp,by dsimp only;rw [<-hs2];simp⟩,by dsimp only;omega,?_⟩;dsimp only;rw [<-hset];exact a8 (qf [(1000,70)])
    | false =>
     rw [show aU p (q :: t.drop (i+1))=(Q.1 :: (aU p (t.drop (i+1))).1,[⟨3,p,q.res.name,⟨0,0⟩⟩]++bo Q.1.res.name Q.2.1++(aU p (t.drop (i+1))).2) by simp [aU,hh,hQ,hz]] at hs1 hs2;repeat' (first|refine az ?_ ?_|(refine aa 8 rfl ?_;refine aK (ae rfl rfl (av rfl rfl) (aB [⟨3,p,q.res.name,⟨0,0⟩⟩] rfl rfl rfl rfl) rfl aE aE) rfl rfl rfl ?_)|(refine aa 9 rfl ?_;first|(refine cB [] (FV q p) ?_)|(refine cB [] (eT q p) ?_)|(refine cB [] (eH (af q.holds p)) ?_)|(refine cC [] (vz q p hQ) ?_)|(refine cC [] (mX Q.1.res.name Q.2.1 (by omega)) ?_))|refine ay ?_|(refine aa 4 rfl ?_;refine bW (aM (z:=Q.1) rfl rfl rfl rfl (by first|assumption|exact qGg (by omega)) rfl rfl rfl rfl (qNl rfl) rfl rfl) rfl rfl rfl ?_)|exact aA|refine ax fun hb=>?_)
     refine ⟨(i+1,o++[Q.1],ev++[⟨3,p,q.res.name,⟨0,0⟩⟩]++bo Q.1.res.name Q.2.1),⟨by dsimp only;omega,by simp;omega,by simp;omega,by dsimp only;rw [<-hs1];simp,by dsimp only;rw [<-hs2];simp⟩,by dsimp only;omega,?_⟩;dsimp only;rw [<-hset];exact a8 (qf [(1000,70)])
  ·have e:(o++t.drop i,ev)=R:=by
    rw [qDn (by omega)] at hs1 hs2 ⊢;simp [aU] at hs1 hs2;rw [hs2,List.append_nil,hs1]
   refine ao ?_;rw [<-e];refine gG (qf []) ?_;exact ak
structure CatOk (l:List Rs):Prop where
 len:l.length<=8
 ok:∀x∈l,ly x=true
 asc:∀i (h:i+1<l.length),fT (l[i]'(by omega)).name l[i+1].name=true
theorem NP {t:List Qu} (h:eV t=true):CatOk (g7 t):=by
 have hp:=cm h;refine ⟨by simp [g7];exact hp.1,fun x hx=>?_,fun i hi=>?_⟩
 ·obtain ⟨q,hq,rfl⟩:=List.mem_map.1 hx;exact (aG (dc h hq)).res
 ·have:=(pg hp.2.1).1;have hi':i+1<t.length:=by simpa [g7] using hi
  have h2:=(List.pairwise_iff_getElem.1 this) i (i+1) (by simp [eZ];omega) (by simp [eZ];omega) (by omega);simpa [eZ,g7] using h2
theorem Pj {a b:ByteArray} (h:fT a b=true):(!Op.bytesLess a.toList b.toList)=false:=by
 unfold fT at h;rw [h];rfl
theorem ni (l:List Rs) (hc:CatOk l):FSpec prog 231 [.one (.sl f9 l)] [] [] (.b true) []:=by
 refine aS func231 ?_;have h8:=hc.len;refine ao ?_;refine ab (fun i=>i<=l.length) (fun i=>bC [] [(0,.c (.sl f9 l)),(3,.i i)] []) (fun i=>l.length-i) 0 (Nat.zero_le _) aL ?_;intro i hi;by_cases hlt:i<l.length
 ·have hv:=hc.ok _ (List.getElem_mem hlt);rcases Nat.eq_zero_or_pos i with h0|h0
  ·subst h0;have:=AH (l[0]'(by omega));refine ao ?_;refine ⟨0+1,by omega,by omega,?_⟩;exact aL
  ·obtain ⟨y,hy⟩:∃y,l[((i:Int)-1).toNat]? = some y:=⟨_,qGg (by omega)⟩;have hlt2:(!Op.bytesLess y.name.toList l[i].name.toList)=false:=by
    refine Pj ?_;have:=hc.asc (i-1) (by omega);rw [show ((i:Int)-1).toNat=i-1 by omega,qGg (by omega)] at hy;rw [Option.some.inj hy] at this;simpa [show i-1+1=i by omega] using this
   have:=AH l[i];repeat' (first|refine az ?_ ?_|refine fV ?_|refine ay ?_|exact aA|(refine ax fun hb=>?_;first|(exact Bool.noConfusion ((congrArg (!·) hb).symm.trans hlt2))|skip))
   refine ⟨i+1,by omega,by omega,?_⟩;exact aL
 ·skip
  exact QY
def nO (n:ByteArray) (t:List Qu):Rs:=bif bh t n then (bG t n).res else ⟨⟨#[]⟩,0,0,0⟩
theorem vW {n:ByteArray}:∀{t:List Qu} {k:Nat},bV n k t = -1\/∃i,∃h:i<t.length,bV n k t=((k+i:Nat):Int)/\t[i].res.name.toList == n.toList/\∀j (hj:j<i),(t[j].res.name.toList == n.toList)=false
 | [],_=>.inl rfl
 | q :: l,k=>by
  unfold bV;cases hq:q.res.name.toList == n.toList with
  | true=>exact .inr ⟨0,by simp,by simp,by simpa using hq,fun j hj=>absurd hj (Nat.not_lt_zero _)⟩
  | false =>
   rcases vW (n:=n) (t:=l) (k:=k+1) with h|⟨i,hi,h1,h2,h3⟩
   ·exact .inl (by simpa using h)
   ·refine .inr ⟨i+1,by simpa using hi,by rw [qCf,h1];congr 1;omega,by simpa using h2,fun j hj=>?_⟩;cases j with
    | zero=>simpa using hq
    | succ j=>simpa using h3 j (by omega)
theorem xV {n:ByteArray}:∀{t:List Qu} {k:Nat},bV n k t<0->∀j (hj:j<t.length),(t[j].res.name.toList == n.toList)=false
 | [],_,_,j,hj=>by simp at hj
 | q :: l,k,h,j,hj=>by
  unfold bV at h;cases hq:q.res.name.toList == n.toList with
  | true=>rw [hq,qCt] at h;omega
  | false =>
   rw [hq,qCf] at h;cases j with
   | zero=>simpa using hq
   | succ j=>simpa using xV h j (by simpa using hj)
theorem IW (t:List Qu) (n:ByteArray):FSpec prog 358 [.one (.sl f9 (g7 t)),.one (.sc (.string n))] [] [] (.tup [(nO n t).a,.one (.sc (.bool (bh t n)))]) []:=by
 refine aS func358 ?_;obtain ⟨L,hL⟩:=qGe (g7 t);rw [hL];have hLl:L.length=t.length:=by rw [<-hL];simp [g7]
 have hLg:∀i (h:i<L.length),L[i]=(t[i]'(by omega)).res:=by intro i h;simp [<-hL,g7]
 refine aP (fun c ρ a w hr=>ck (t:=0) hr rfl) (fun hl0=>?_);by_cases hf:bV n 0 t<0
 ·have hall:=xV hf;have hh:bh t n=false:=by simp [bh];omega
  rw [show nO n t=⟨⟨#[]⟩,0,0,0⟩ by simp [nO,hh],hh];refine ao ?_;refine ab (fun i=>i<=L.length) (fun i=>bC [4] [(0,.c (.sl f9 L)),(1,.c (.sc (.string n))),(4,.c (.ptr 4 0)),(6,.i i)] [(4,.box 74 [.sc (.string ⟨#[]⟩),.sc (.int .i64 0),.sc (.int .i64 0),.sc (.int .i64 0)])]) (fun i=>L.length-i) 0 (Nat.zero_le _) aL ?_;intro i hi;by_cases hlt:i<L.length
  ·have h1:=hall i (by omega);rw [<-congrArg Rs.name (hLg i hlt)] at h1;repeat' (first|refine az ?_ ?_|refine ay ?_|exact aA|(refine ax fun hb=>?_;first|(exact Bool.noConfusion (((beq_iff_eq.2 hb).symm.trans h1):true=false))|(exact hb.elim)|skip))
   refine ⟨i+1,by omega,by omega,?_⟩;exact aL
  ·skip
   refine ao ?_
   (refine gG (qf []) ?_;exact ak)
 ·rcases vW (n:=n) (t:=t) (k:=0) with h|⟨k,hk,hF,h2,h3⟩
  ·omega
  have hh:bh t n=true:=by simp [bh];omega
  have hq:bG t n=t[k]:=by
   obtain ⟨j,hj,hF2,hq,_⟩:=gH hf;have:j=k:=by rw [hF] at hF2;omega
   subst this;exact hq
  rw [show nO n t=t[k].res by simp [nO,hh,hq],hh];refine ao ?_;refine ab (fun i=>i<=k) (fun i=>bC [4] [(0,.c (.sl f9 L)),(1,.c (.sc (.string n))),(4,.c (.ptr 4 0)),(6,.i i)] [(4,.box 74 [.sc (.string ⟨#[]⟩),.sc (.int .i64 0),.sc (.int .i64 0),.sc (.int .i64 0)])]) (fun i=>L.length-i) 0 (Nat.zero_le _) aL ?_;intro i hi;have hlt:i<L.length:=by omega
  by_cases hik:i=k
  ·subst hik;have h1:=h2;rw [<-hLg i hlt] at h1 ⊢;rw [beq_iff_eq] at h1;refine ao ?_
   (refine gG (qf []) ?_;exact ak)
  ·have h1:=h3 i (by omega);rw [<-congrArg Rs.name (hLg i hlt)] at h1;repeat' (first|refine az ?_ ?_|refine ay ?_|exact aA|(refine ax fun hb=>?_;first|(exact Bool.noConfusion (((beq_iff_eq.2 hb).symm.trans h1):true=false))|skip))
   refine ⟨i+1,by omega,by omega,?_⟩;exact aL
def tq (t:List Qu) (a:Tm):Int:=bif !bh t a.name then 10 else bif !aH (bG t a.name).res a.am then 12 else 0
theorem rm (t:List Qu) (n:ByteArray) {b:Bool} {r:Rs} (h:bh t n=b) (h2:nO n t=r):FSpec prog 358 [.one (.sl f9 (g7 t)),.one (.sc (.string n))] [] [] (.tup [r.a,.one (.sc (.bool b))]) []:=h▸h2▸IW t n
theorem Pk (t:List Qu) (a:Tm) (hV:eV t=true):FSpec prog 316 [.one (.sl f9 (g7 t)),a.a] [] [] (.i (tq t a)) []:=by
 refine aS func316 ?_;have hc:=NP hV;cases hh:bh t a.name with
 | false =>
  have hr:nO a.name t=⟨⟨#[]⟩,0,0,0⟩:=by simp [nO,hh]
  rw [show tq t a=10 by simp [tq,hh]];have:=ni (g7 t) hc;have:=rm t a.name hh hr;exact QY
 | true =>
  have hr:nO a.name t=(bG t a.name).res:=by simp [nO,hh]
  cases hf:aH (bG t a.name).res a.am with
  | false =>
   rw [show tq t a=12 by simp [tq,hh,hf]];have:=ni (g7 t) hc;have:=rm t a.name hh hr;have:=iN (bG t a.name).res a.am;exact QY
  | true =>
   rw [show tq t a=0 by simp [tq,hh,hf]];have:=ni (g7 t) hc;have:=rm t a.name hh hr;have:=iN (bG t a.name).res a.am;exact QY
theorem C4 (t:List Qu) (a:Tm) (l:List Tm):gQ t (a :: l)=bif !decide (tq t a=0) then tq t a else gQ t l:=by
 rw [show gQ t (a :: l)=bif !bh t a.name then 10 else bif !aH (bG t a.name).res a.am then 12 else gQ t l from rfl];unfold tq;cases bh t a.name <;> cases aH (bG t a.name).res a.am <;> rfl
theorem IX (t:List Qu) (a:Tm) (hV:eV t=true) {e:Int} (h:tq t a=e):FSpec prog 316 [.one (.sl f9 (g7 t)),a.a] [] [] (.i e) []:=h▸Pk t a hV
theorem Pm (d:Nat) (t:List Qu) (x:Ex) (hV:eV t=true):FSpec prog 235 [.one (.sl f9 (g7 t)),x.a d] [] [] (.i (iK t x)) []:=by
 refine aS func235 ?_;have h8:=dE x;obtain ⟨L,hL⟩:=qGe (cR x);rw [hL] at h8;cases hv:nZ x with
 | false =>
  rw [show iK t x=1 by simp [iK,hv]];have:=mn d x hv hL;exact QY
 | true =>
  rw [show iK t x=gQ t L by simp [iK,hv,hL]];have:=mn d x hv hL;refine ao ?_;refine ab (fun i=>i<=L.length/\gQ t (L.drop i)=gQ t L) (fun i=>bC [] [(0,.c (.sl f9 (g7 t))),(5,.c (.sl da L)),(7,.i i)] []) (fun i=>L.length-i) 0 ⟨Nat.zero_le _,rfl⟩ aL ?_;rintro i ⟨hi,hs⟩;by_cases hlt:i<L.length
  ·rw [qDc hlt,C4] at hs;obtain ⟨e,he⟩:=qGe (tq t L[i]);rw [he] at hs;by_cases h0:e=0
   ·subst h0;have:=IX t L[i] hV he;refine ao ?_;refine ⟨i+1,⟨by omega,by rw [<-hs];rfl⟩,by omega,?_⟩;exact aL
   ·rw [<-hs,qDf h0,Bool.not_false,qCt];have:=IX t L[i] hV he;exact QY
  ·rw [<-hs,qDn (by omega),show gQ t []=0 from rfl];exact QY
theorem oA (t:List Qu) (p:Pr) (a:Tm) (prio:Int):(b9 t p a prio).2.1.length<=18:=by
 unfold b9;cases hV:eV t with
 | false=>simp [fY]
 | true =>
  by_cases hf:bV a.name 0 t<0
  ·simp [hf,fY]
  ·obtain ⟨i,hi,hF,hq,hx⟩:=gH hf;have:=vA (dc hV (List.getElem_mem hi)) p a.am prio;rw [hq];generalize (decide ((aD t).length=8) && !decide (p∈aD t))=b;cases b <;> cases decide ((bO t[i] p a.am prio).2.2=0) <;> simp [hf,fY,gW] <;> omega
def Ly (p:Pr) (prio:Int):List Tm->Wk->Prop
 | [],_=>True
 | a :: l,w=>w.ev.length<=900000/\Ly p prio l (w.take (b9 w.c.queues p a prio).1 (b9 w.c.queues p a prio).2.1)
def Pn (w:Wk) (i:Nat) (r:Rq):Prop:=i<w.c.procs.length/\eV w.c.queues=true/\w.c.queues.length<=100000/\((w.pc i).waiting=false->qW r=true->iK w.c.queues r.expr=0->Ly (w.pc i).proc r.prio (cR r.expr) (NJ w i r)/\StOk (GN w i r).c.procs.length (GN w i r))
theorem C5 (w:Wk) (i:Nat) (r:Rq):cQ w i r=bif (w.pc i).waiting then (w,14) else bif !qW r then (w,1) else bif !decide (iK w.c.queues r.expr=0) then (w,iK w.c.queues r.expr) else (be (GN w i r).c.procs.length (GN w i r),0):=rfl
theorem IY (d:Nat) (w:Wk) (i:Nat) (r:Rq) (hok:Pn w i r) {Z:Wk×Int} (hZ:cQ w i r=Z):FSpec prog 181 [ls,lD i,r.a d] (HI d w) [3,4] (.i Z.2) (HO d Z.1):=by
 refine aS func181 ?_;obtain ⟨hi,hV,hq8,hst⟩:=hok;obtain ⟨x,hx⟩:∃x,w.c.procs[i]? = some x:=⟨_,qGg hi⟩;have hpc:=lv hx;rw [C5] at hZ;unfold GN at hZ hst;unfold NJ at hZ hst;rw [hpc] at hZ hst;have kV:=vy d r;cases hw:x.waiting with
 | true =>
  obtain rfl:Z=(w,14):=by rw [<-hZ,hw];rfl
  refine ao ?_
  (refine cn (qf [(3,1),(4,2)]) ?_;exact ak)
 | false =>
  rw [hw,qCf] at hZ;cases hr:qW r with
  | false =>
   obtain rfl:Z=(w,1):=by rw [<-hZ,hr];rfl
   rw [hr] at kV;refine ao ?_
   (refine cn (qf [(3,1),(4,2)]) ?_;exact ak)
  | true =>
   rw [hr,Bool.not_true,qCf] at hZ;rw [hr] at kV;have kC:=AO w.c.queues hq8;have kR:=Pm d w.c.queues r.expr hV;obtain ⟨e,he⟩:=qGe (iK w.c.queues r.expr);rw [he] at hZ hst kR;by_cases h0:e=0
   case neg =>
    obtain rfl:Z=(w,e):=by rw [<-hZ,qDf h0];rfl
    refine ao ?_
    (refine cn (qf [(3,1),(4,2)]) ?_;exact ak)
   obtain ⟨hcl,hs⟩:=hst hw hr h0;rw [qDt h0,Bool.not_true,qCf] at hZ;obtain ⟨A,hA⟩:∃A,w.setP i { x with waiting:=true,req:=r,since:=w.c.now } = A:=⟨_,rfl⟩;rw [hA] at hZ hcl hs;have hAi:i<A.c.procs.length:=by rw [<-hA,gX];exact hi
   obtain ⟨z,hz,hzp⟩:∃z,(bi A i).c.procs[i]? = some z/\z.proc=x.proc:=by
    refine ⟨{ A.pc i with gen:=bE (A.pc i).gen },?_,?_⟩
    ·show (List.set _ _ _)[i]? = _;rw [List.getElem?_set_self hAi]
    ·show (A.pc i).proc=x.proc;rw [<-hA];unfold Wk.pc Wk.setP;rw [List.getD_eq_getElem?_getD,List.getElem?_set_self hi];rfl
   have h8:=dE r.expr;obtain ⟨L,hL⟩:=qGe (cR r.expr);rw [hL] at hZ hcl hs h8;have hs1:=y9 hi { x with waiting:=true };have hl1:(w.c.procs.set i { x with waiting:=true }).length=w.c.procs.length:=List.length_set;have hs2:=y9 (hl1▸hi) { x with waiting:=true,req:=r };have hl2:((w.c.procs.set i { x with waiting:=true }).set i { x with waiting:=true,req:=r }).length=w.c.procs.length:=by rw [List.length_set,hl1]
   have eA:A=⟨{ w.c with procs:=((w.c.procs.set i { x with waiting:=true }).set i { x with waiting:=true,req:=r }).set i { x with waiting:=true,req:=r,since:=w.c.now } },w.ev⟩:=by
    rw [<-hA];unfold Wk.setP;rw [List.set_set,List.set_set]
   have kX:=ov d A i hAi;obtain ⟨B,hB⟩:=qGe (bi A i);rw [hB] at hZ hcl hs hz kX;rw [eA] at kX;obtain ⟨W,hW⟩:=qGe (dC x.proc r.prio L B);rw [hW] at hZ hs;have kS:=nh d W _ hs;obtain ⟨F,hF⟩:=qGe (be W.c.procs.length W);rw [hF] at hZ kS;obtain rfl:Z=(F,0):=hZ.symm;rw [<-hzp] at hcl hW;obtain ⟨Q,hQ⟩:=qGe z.proc;rw [hQ] at hcl hW;repeat' (first|refine az ?_ ?_|(refine aa 9 rfl ?_;first|(refine cB [] kV ?_)|(refine cC [] kC ?_)|(refine cB [] kR ?_)|(refine cH (qf [(1,1),(2,2),(3,1003),(4,1004)]) kX ?_)|(refine cC [] (jO d r.expr hL) ?_))|refine ay ?_|(refine aa 4 rfl ?_;first|(refine bW (aM (z:={ x with waiting:=true }) rfl rfl rfl rfl hx rfl rfl rfl rfl (qNl rfl) rfl rfl) rfl rfl rfl ?_)|(refine bW (aM (z:={ x with waiting:=true,req:=r }) rfl rfl rfl rfl hs1 rfl rfl rfl rfl (qNl rfl) rfl rfl) rfl rfl rfl ?_)|(refine bW (aM (z:={ x with waiting:=true,req:=r,since:=w.c.now }) rfl rfl rfl rfl hs2 rfl rfl rfl rfl (qNl rfl) rfl rfl) rfl rfl rfl ?_))|exact aA|(refine ax fun hb=>?_;first|(cases hw.symm.trans hb;done)|(exact absurd h0 hb)|skip))
   refine ab (fun y:Nat×Wk=>y.1<=L.length/\y.2.c.procs=B.c.procs/\Ly Q r.prio (L.drop y.1) y.2/\dC Q r.prio (L.drop y.1) y.2=W) (fun y=>bC [0,1,2,5,1010,1011] [(0,.v ls),(1,.v (lD i)),(5,.c (.ptr 5 0)),(8,.c (.sl da L)),(9,.i y.1)] [(0,.box 163 (GM y.2 1010 1011)),(5,.box 85 (r.d d)),(1010,.arr 121 (wS d) y.2.c.procs),(1011,.arr 355 sR y.2.ev)]) (fun y=>L.length-y.1) (0,B) ⟨Nat.zero_le _,rfl,hcl,hW⟩ (by exact a8 (qf [(1010,1003),(1011,1004)])) ?_;rintro ⟨k,v⟩ ⟨hk,hp,hv,hg⟩;dsimp only at *
   by_cases hlt:k<L.length
   case neg =>
    obtain rfl:v=W:=by rw [<-hg,qDn (by omega)];rfl
    repeat' (first|refine az ?_ ?_|refine aa 9 rfl (cH (qf [(1,1010),(2,1011),(3,1020),(4,1021)]) kS ?_)|refine ay ?_|exact aA|refine ax fun hb=>?_|(refine cn (qf [(3,1020),(4,1021)]) ?_;exact ak))
   rw [qDc hlt] at hv hg;obtain ⟨a,ha⟩:=qGe (L[k]);have hga:L[k]? = some a:=by rw [qGg hlt,ha]
   rw [ha] at hv hg;obtain ⟨v1,v2⟩:=hv;have hg:dC Q r.prio (L.drop (k+1)) (v.take (b9 v.c.queues Q a r.prio).1 (b9 v.c.queues Q a r.prio).2.1)=W:=hg;obtain ⟨R,hR⟩:=qGe (b9 v.c.queues Q a r.prio);have hll:=oA v.c.queues Q a r.prio;rw [hR] at hll v2 hg;have hzv:v.c.procs[i]? = some z:=by rw [hp];exact hz
   have hiv:=(List.getElem?_eq_some_iff.1 hzv).1;have kT:=Ls v.c.queues Q a r.prio hR;rw [<-hQ] at kT;repeat' (first|refine az ?_ ?_|(refine aa 9 rfl ?_;first|(refine cC [] kT ?_)|(refine cH (qf [(1,1010),(2,1011),(3,1020),(4,1021)]) (sW d v R.1 R.2.1 (by omega)) ?_))|refine ay ?_|exact aA|refine ax fun hb=>?_)
   refine ⟨(k+1,v.take R.1 R.2.1),⟨by dsimp only;omega,hp,v2,hg⟩,by dsimp only;omega,?_⟩;exact a8 (qf [(1010,1020),(1011,1021)])
instance (d:Nat):ST prog (wS d) 48 121 184:=⟨ElTB.mk' underlying48 (.agg #[.int .i64 0,.int .i64 0,.int .i64 0,.int .i64 0,.slice none 0 0,.slice none 0 0,.bool false,.int .i64 0,.string ⟨#[]⟩,.int .i64 0,.int .i64 0,.slice none 0 0,.int .i64 0,.int .i64 0,.int .i64 0,.int .i64 0]) 16 184 (by kernel_rfl) rfl rfl⟩
def Po (w:Wk) (i:Nat):Prop:=i<w.c.procs.length/\w.c.procs.length<=100000/\w.ev.length<=900000/\(bM w.c.queues (w.pc i).proc).2.length<=1000/\StOk (Mv w i).c.procs.length (Mv w i)
theorem Lz (w:Wk) (i:Nat):ib w i=be (Mv w i).c.procs.length (Mv w i):=rfl
theorem Pp (d:Nat) (w:Wk) (i:Nat) (hok:Po w i):FSpec prog 188 [ls,lD i] (HI d w) [3,4] (.tup []) (HO d (ib w i)):=by
 refine aS func188 ?_;obtain ⟨hi,hp8,hev,hrl,hs⟩:=hok;obtain ⟨x,hx⟩:∃x,w.c.procs[i]? = some x:=⟨_,qGg hi⟩;have hpc:=lv hx;rw [Lz];unfold Mv at hs ⊢;rw [hpc] at hs hrl ⊢;obtain ⟨R,hR⟩:=qGe (bM w.c.queues x.proc);rw [hR] at hs hrl ⊢;have kR:=IL w.c.queues x.proc hR;have hcut:w.c.procs.take i++w.c.procs.drop (i+1)=w.c.procs.eraseIdx i:=(List.eraseIdx_eq_take_drop_succ ..).symm;have kN:=Iy d ⟨{ w.c with queues:=R.1,procs:=w.c.procs.eraseIdx i },w.ev++R.2⟩ 5 x.proc (by simp;omega);have kS:=nh d _ _ hs;have hlq:(w.take R.1 R.2).c.procs.length=w.c.procs.length:=rfl;repeat' (first|refine az ?_ ?_|(refine aa 9 rfl ?_;first|(refine cC [] kR ?_)|(refine cH (qf [(3,1003),(4,1004)]) (sW d w R.1 R.2 (by omega)) ?_)|(refine cH (qf [(1,42),(2,1004),(3,1005),(4,1006)]) kN ?_)|(refine cH (qf [(1,1005),(2,1006),(3,1007),(4,1008)]) kS ?_))|refine ay ?_|exact aA|refine ax fun hb=>?_|(refine aK (Ib rfl rfl rfl rfl rfl rfl (by first|omega|(show _<=w.c.procs.length;omega)) (by first|omega|(show 0<w.c.procs.length;omega))) rfl rfl rfl ?_)|(refine aK (Ic (j:=i+1) rfl rfl rfl rfl rfl (by first|omega|(show _<=w.c.procs.length;omega)) (by first|omega|(show 0<w.c.procs.length;omega))) rfl rfl rfl ?_)|(refine aK (CN rfl rfl rfl rfl rfl rfl (by first|omega|(show _<=w.c.procs.length;omega)) (by first|omega|(show _<=w.c.procs.length;omega)) hcut (by simp only [maxLen];omega) (by omega)) rfl rfl rfl ?_)|(exact D7 (qf [(3,1007),(4,1008)])))
def Pq (p:Pr) (P:List Pc):Prop:=∀i j (hi:i<P.length) (hj:j<P.length),i<=j->0<bH P[i].proc p->0<bH P[j].proc p
theorem I0 (x:Pc):∀(P:List Pc) (k:Nat),k<=P.length->(∀j (hj:j<P.length),j<k->¬0<bH P[j].proc x.proc)->(∀j (hj:j<P.length),k<=j->0<bH P[j].proc x.proc)->pn x P=P.take k++x :: P.drop k
 | [],k,hk,_,_=>by
  obtain rfl:k=0:=by simpa using hk
  rfl
 | y :: P,0,_,_,h2=>by
  have:=h2 0 (by simp) (Nat.le_refl _);simp only [List.getElem_cons_zero] at this;simp [pn,this]
 | y :: P,k+1,hk,h1,h2=>by
  have h3:=h1 0 (by simp) (by omega);simp only [List.getElem_cons_zero] at h3;have ih:=I0 x P k (by simpa using hk) (fun j hj hjk=>by have:=h1 (j+1) (by simpa using hj) (by omega);simpa using this) (fun j hj hjk=>by have:=h2 (j+1) (by simpa using hj) (by omega);simpa using this);simp [pn,h3,ih]
theorem LA {P:List Pc} {x:Pc} {k:Nat} (hk:k<P.length):((P.take (k+1)++x :: P.drop (k+1)).set (k+1) P[k]).set k x=P.take k++x :: P.drop k:=by
 have hl:(P.take k).length=k:=by simp;omega
 rw [List.take_succ_eq_append_getElem hk,qDc hk,List.append_assoc,List.singleton_append];generalize P.take k=A at *
 generalize P.drop (k+1)=B at *
 generalize P[k]=z at *
 rw [List.set_append_right _ _ (by omega),show k+1-A.length=1 by omega,List.set_cons_succ,List.set_cons_zero,List.set_append_right _ _ (by omega),show k-A.length=0 by omega,List.set_cons_zero]
theorem zi (l:List Pc) (d:Nat) (p:Pr) {z:Int} (h:d8 p 0 l=z):FSpec prog 149 [.one (.sl (wS d) l),p.a] [] [] (.i z) []:=h▸Ba l d p
theorem Ps (d:Nat) (w:Wk) (p:Pr) (cost:Int) (h8:w.c.procs.length<=100000) (hup:Pq p w.c.procs) {Z:Wk×Int} (hZ:nK w p cost=Z):FSpec prog 179 [ls,p.a,lD cost] (HI d w) [3,4] (.i Z.2) (HO d Z.1):=by
 refine aS func179 ?_;unfold nK at hZ;have kV:=eS p;obtain ⟨bA,hA⟩:∃b,(gm p && decide (1<=cost) && decide (cost<=1000))=b:=⟨_,rfl⟩;rw [hA] at hZ;cases bA with
 | false =>
  obtain rfl:Z=(w,1):=by rw [<-hZ];rfl
  obtain ⟨v,hv⟩:=qGe (gm p);rw [hv] at kV hA;cases v with
  | false =>
   refine ao ?_
   (refine cn (qf [(3,1),(4,2)]) ?_;exact ak)
  | true =>
   simp only [Bool.true_and,Bool.and_eq_false_iff,decide_eq_false_iff_not] at hA;by_cases h1:1<=cost
   ·refine ao ?_
    (refine cn (qf [(3,1),(4,2)]) ?_;exact ak)
   ·refine ao ?_
    (refine cn (qf [(3,1),(4,2)]) ?_;exact ak)
 | true =>
  simp only [qBa,decide_eq_true_eq] at hA;obtain ⟨⟨hv,h1⟩,h2⟩:=hA;rw [hv] at kV;rw [Bool.not_true,qCf] at hZ;obtain ⟨ix,hix⟩:=qGe (d8 p 0 w.c.procs);have kI:=zi w.c.procs d p hix;rw [hix] at hZ;by_cases h0:0<=ix
  ·obtain rfl:Z=(w,11):=by rw [<-hZ,qDt h0];rfl
   exact Rt
  ·rw [qDf h0,qCf] at hZ;by_cases hl:w.c.procs.length=8
   ·obtain rfl:Z=(w,4):=by rw [<-hZ,qDt hl];rfl
    exact Rt
   ·rw [qDf hl,qCf] at hZ;obtain ⟨R0,hR0⟩:∃R0,w.c.procs++[{ Kc with proc:=p,cost:=cost }]=R0:=⟨_,rfl⟩;obtain ⟨P,hP⟩:=qGe w.c.procs;have hR0l:R0.length=P.length+1:=by rw [<-hR0,hP];simp
    have hPl:P.length<=100000:=hP▸h8;repeat' (first|refine az ?_ ?_|(refine aa 9 rfl ?_;first|(refine cB [] kV ?_)|(refine cB [1] kI ?_))|refine ay ?_|exact aA|refine ax fun hb=>?_|(refine aK (IZ rfl rfl rfl rfl (AF [{ Kc with proc:=p,cost:=cost }] rfl rfl (by (repeat' (first|exact trivial|exact .same _|exact .nil|refine ⟨?_,?_⟩));first|done|fail) rfl) hR0 (by simp) (by simp only [List.length_cons,List.length_nil,maxLen];omega) (by simp only [List.length_cons,List.length_nil];omega)) rfl rfl rfl ?_))
    obtain ⟨x,hx⟩:∃x,({ Kc with proc:=p,cost:=cost }:Pc)=x:=⟨_,rfl⟩;have hxp:x.proc=p:=by rw [<-hx]
    have hR0':R0=P.take P.length++x :: P.drop P.length:=by rw [<-hR0,hP,hx];simp
    have hZ:((⟨{ w.c with procs:=pn x w.c.procs },w.ev⟩,0):Wk×Int)=Z:=by rw [<-hx];exact hZ
    clear hR0 hx hix kI kV;rw [hP] at hup;refine ab (fun y:Nat×List Pc=>y.1<=P.length/\y.2=P.take y.1++x :: P.drop y.1/\∀j (hj:j<P.length),y.1<=j->0<bH P[j].proc p) (fun y=>bC [0,1,2,4,1010] [(0,.v ls),(4,.c (.ptr 4 0)),(7,.c (.ocut 1010)),(8,.i y.1)] [(0,.box 163 (GM w 1 2)),(2,.arr 355 sR w.ev),(4,.box 42 [.sc (.int .i64 p.site),.sc (.int .i64 p.inc),.sc (.int .i64 p.num)]),(1010,.arr 121 (wS d) y.2)]) (fun y=>y.1) (P.length,R0) ⟨Nat.le_refl _,hR0',fun j hj h=>absurd hj (by dsimp only at h;omega)⟩ (by exact a8 (qf [(1010,45)])) ?_;clear hR0' hR0l R0;rintro ⟨k,R⟩ ⟨hk,hR,hgt⟩;dsimp only at *
    have hRl:R.length=P.length+1:=by rw [hR];simp;omega
    have hRk:R[k]? = some x:=by
     rw [hR,List.getElem?_append_right (by simp;omega)];simp;rw [Nat.min_eq_left hk];simp
    have fin:(∀j (hj:j<P.length),j<k->¬0<bH P[j].proc p)->R=pn x w.c.procs:=fun h=>by
     rw [hR,hP];exact (I0 x P k hk (by rw [hxp];exact h) (by rw [hxp];exact hgt)).symm
    cases k with
    | zero =>
     have hf:=fin (fun j _ h=>absurd h (by omega));rw [<-hf] at hZ;obtain rfl:Z=(⟨{ w.c with procs:=R },w.ev⟩,0):=hZ.symm;refine ao ?_
     (refine cn (qf [(3,1010),(4,2)]) ?_;exact ak)
    | succ j =>
     have hj:j<P.length:=hk;obtain ⟨z,hz⟩:=qGe (P[j]);have ej:(((j+1:Nat):Int)-1).toNat=j:=by omega
     have hRj:R[(((j+1:Nat):Int)-1).toNat]? = some z:=by
      rw [ej,hR,List.getElem?_append_left (by simp;omega),List.getElem?_take,if_pos (by omega),qGg hj,hz]
     obtain ⟨e,he⟩:=qGe (bH z.proc x.proc);have kC:=iO z.proc x.proc;rw [he] at kC;by_cases h0:0<e
     ·have hR1:(R.set (j+1) z)[(((j+1:Nat):Int)-1).toNat]? = some z:=by
       rw [List.getElem?_set_ne (by omega)];exact hRj
      have hl1:(R.set (j+1) z).length=R.length:=List.length_set;repeat' (first|refine az ?_ ?_|refine aa 9 rfl (cB [1010] kC ?_)|refine ay ?_|(refine aa 4 rfl ?_;first|(refine bW (aM (z:=z) rfl rfl rfl rfl hRk rfl rfl rfl rfl (qNl rfl) rfl rfl) rfl rfl rfl ?_)|(refine bW (aM (z:=x) rfl rfl rfl rfl hR1 rfl rfl rfl rfl (qNl rfl) rfl rfl) rfl rfl rfl ?_))|exact aA|refine ax fun hb=>?_)
      refine ⟨(j,(R.set (j+1) z).set (((j+1:Nat):Int)-1).toNat x),⟨by dsimp only;omega,?_,fun i hi hij=>?_⟩,by dsimp only;omega,?_⟩
      ·dsimp only;rw [ej,hR,<-hz];exact LA hj
      ·dsimp only at hij;by_cases e2:i=j
       ·subst e2;rw [hz,<-hxp,he];exact h0
       ·exact hgt i hi (by omega)
      ·exact aL
     ·have hf:=fin (fun i hi hij hpos=>h0 (by
       have:=hup i j hi hj (by omega) hpos;rw [hz,<-hxp,he] at this;exact this))
      rw [<-hf] at hZ;obtain rfl:Z=(⟨{ w.c with procs:=R },w.ev⟩,0):=hZ.symm;repeat' (first|refine az ?_ ?_|refine aa 9 rfl (cB [1010] kC ?_)|refine ay ?_|exact aA|refine ax fun hb=>?_|(refine cn (qf [(3,1010),(4,2)]) ?_;exact ak))
end Go.Proofs.YtkkbopkbjacfmaaGreatDoor
