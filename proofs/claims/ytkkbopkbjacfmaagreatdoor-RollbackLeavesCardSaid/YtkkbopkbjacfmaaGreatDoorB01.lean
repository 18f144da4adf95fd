/- Part B01 of a proof of statements of chapter 15 (no condition). -/
import Derived.Test.YtkkbopkbjacfmaaGreatDoorK40
import Derived.Test.YtkkbopkbjacfmaaGreatDoorK41
import Derived.Test.YtkkbopkbjacfmaaGreatDoorK42
set_option linter.unusedVariables false
set_option linter.unusedSimpArgs false
set_option maxRecDepth 100000
set_option maxHeartbeats 64000000
namespace Go.Proofs.YtkkbopkbjacfmaaGreatDoor
open Go.RowKit Go.Proofs.Tryz
theorem Apl.has {q q':Qu} {p r:Pr} (h:Apl q q' p) (hh:dY q' r=true):dY q r=true:=by
 by_cases hr:r=p
 ·subst hr;unfold dY at hh ⊢;rw [h.wan] at hh;rcases h.own with e|⟨h0,_⟩
  ·rw [e] at hh;rw [Bool.or_eq_true];exact .inr (by simpa using hh)
  ·rw [bg.2 h0];simp
 ·exact (h.eff r hr).has hh
theorem GF {s:Ws} {o:Opn} (h:bb s=true) (ho:iT o=true):∀x∈aR (i6 s o),x∈aR s:=by
 intro x hx;unfold aR at hx ⊢;rw [bf] at hx ⊢;rcases List.mem_append.1 hx with hx|hx
 ·refine List.mem_append.2 (.inl ?_);have htv:=mC h;have hx:x∈aD (s.queues.map (iZ o)):=hx;unfold aD at hx ⊢;rw [bf] at hx ⊢;obtain ⟨q',hq',hxq⟩:=et.1 hx;obtain ⟨q,hq,rfl⟩:=List.mem_map.1 hq';have ha:=jV ho (dc htv hq);exact et.2 ⟨q,hq,(dH (aG (dc htv hq)) x).2 (ha.has ((dH (aG ha.ok) x).1 hxq))⟩
 ·obtain ⟨n,hn,rfl⟩:=List.mem_map.1 hx;exact RA
theorem GG {s:Ws} {o:Opn} (h:bb s=true) (ho:iT o=true):bb (i6 s o)=true:=by
 have hlen:=el (im (i6 s o)) (GF h ho);obtain ⟨_,hn8,_,h8⟩:=dU h;unfold bb at h ⊢;simp only [qBa,decide_eq_true_eq] at h ⊢;refine ⟨⟨⟨?_,?_⟩,np _ _ _ h.1.2⟩,by omega⟩
 ·have h1:=h.1.1.1;unfold cM at h1 ⊢;simp only [qBa,decide_eq_true_eq] at h1 ⊢;exact ⟨by show (s.queues.map (iZ o)).length<=8;simpa using h1.1,pD (fun q hq=>⟨(jV ho hq).ok,(jV ho hq).res⟩) h1.2⟩
 ·have:=List.length_filter_le (fun n:Nd=>!decide (n.proc=o.proc)) s.needs;show (s.needs.filter _).length<=8;omega
theorem EZ {p:Pr} {a:Am}:∀{l:List Wt},go l p=some a->∃x∈l,x.proc=p/\x.am=a
 | [],h=>by cases h
 | x :: l,h=>by
  rw [cr] at h;by_cases hx:x.proc=p
  ·rw [qDt hx,qCt] at h;exact ⟨x,by simp,hx,Option.some.inj h⟩
  ·rw [qDf hx,qCf] at h;obtain ⟨y,hy,h1,h2⟩:=EZ h;exact ⟨y,by simp [hy],h1,h2⟩
theorem BX {r:Rs} {l:List Ho} (h:Hv r l) {p:Pr} (h0:af l p≠⟨0,0⟩):aH r (af l p)=true:=by
 obtain ⟨x,hx,hp,ham⟩:=jG h0;rw [<-ham];exact (h.fit x hx).2
theorem L7 {q q':Qu} (hq:ai q=true) {r:Pr} (he:Eff q q' r) (h0:af q.holds r≠⟨0,0⟩):af q'.holds r≠⟨0,0⟩/\bc q.res (af q'.holds r) (af q.holds r)=true:=by
 have hs:=aG hq;rcases he with ⟨e,_⟩|⟨a,hw,e,_⟩
 ·rw [e];exact ⟨h0,me (BX hs.hv h0)⟩
 ·rw [e];obtain ⟨x,hx,hp,ham⟩:=EZ (show go (q.convs++q.waits) r=some a from hw);rcases List.mem_append.1 hx with hx|hx
  ·have hc:=(hs.cok x hx).cov;rw [hp,ham] at hc;refine ⟨fun ea=>?_,hc⟩;have hf:=(hs.cok x hx).fit;rw [ham,ea] at hf;unfold aH at hf;simp [bP] at hf
  ·have:=(hs.wok x hx).2.2;rw [hp] at this;exact absurd this h0
theorem L8 {q q':Qu} {p:Pr} (hq:ai q=true) (h:Apl q q' p) (h0:af q'.holds p≠⟨0,0⟩):af q.holds p≠⟨0,0⟩/\bc q'.res (af q.holds p) (af q'.holds p)=true:=by
 rw [h.res];rcases h.own with e|⟨k1,k2⟩
 ·rw [e] at h0 ⊢;exact ⟨h0,me (BX (aG hq).hv h0)⟩
 ·exact ⟨k1,k2⟩
theorem L9 {o:Option ByteArray} {y:ByteArray} (h:Ka o y=true):∀l:List Qu,jz (some y) l=true->jz o l=true
 | [],_=>rfl
 | z :: l,k=>by
  rw [ct,qBa,qBa] at k ⊢;refine ⟨⟨k.1.1,?_⟩,k.2⟩;cases o with
  | none=>rfl
  | some x=>exact dS h k.1.2
theorem Dw:∀{l' l:List Qu},l'.Sublist l->∀o,jz o l=true->jz o l'=true
 | _,_,.slnil,_,h=>h
 | _,_,.cons a s,o,h=>by
  rw [ct,qBa,qBa] at h;exact Dw s o (L9 h.1.2 _ h.2)
 | _,_,.cons_cons a s,o,h=>by
  rw [ct,qBa,qBa] at h ⊢;exact ⟨h.1,Dw s _ h.2⟩
theorem Dx:∀{l' l:List Nd},l'.Sublist l->∀o,oo o l=true->oo o l'=true
 | _,_,.slnil,_,h=>h
 | _,_,.cons a s,o,h=>by
  rw [fd,qBa,qBa] at h;exact Dx s o (ET h.1.2 _ h.2)
 | _,_,.cons_cons a s,o,h=>by
  rw [fd,qBa,qBa] at h ⊢;exact ⟨h.1,Dx s _ h.2⟩
theorem Dy {s t:Ws} (h:bb s=true) (h1:t.queues.Sublist s.queues) (h2:t.needs.Sublist s.needs):bb t=true:=by
 have hsub:∀x∈aR t,x∈aR s:=fun x hx=>by
  unfold aR at hx ⊢;rw [bf] at hx ⊢;rcases List.mem_append.1 hx with hx|hx
  ·refine List.mem_append.2 (.inl ?_);unfold aD at hx ⊢;rw [bf] at hx ⊢;obtain ⟨q,hq,hxq⟩:=et.1 hx;exact et.2 ⟨q,h1.subset hq,hxq⟩
  ·obtain ⟨n,hn,rfl⟩:=List.mem_map.1 hx;exact List.mem_append.2 (.inr (List.mem_map.2 ⟨n,h2.subset hn,rfl⟩))
 have hlen:=el (im t) hsub;have l1:=h1.length_le;have l2:=h2.length_le;unfold bb at h ⊢;simp only [qBa,decide_eq_true_eq] at h ⊢;refine ⟨⟨⟨?_,by omega⟩,Dx h2 _ h.1.2⟩,by omega⟩;have h3:=h.1.1.1;unfold cM at h3 ⊢;simp only [qBa,decide_eq_true_eq] at h3 ⊢;exact ⟨by omega,Dw h1 _ h3.2⟩
theorem Ma {s:Ws} {o:Opn} (h:bb s=true) (ho:iT o=true) (hp:o.proc ∉ aR s):Dz s o=(Oq,10):=by
 unfold Dz;rw [h,ho,qDf hp];rfl
def lG {α:Type}:List α->Tp->List α×Tp
 | [],t=>([],t)
 | x :: l,t=>(bif !decide (t.v 5=1) then x :: (lG l t.s).1 else (lG l t.s).1,(lG l t.s).2)
def Md (s:Ws) (n:List Int):Ws:=⟨(lG s.queues ⟨n,0⟩).1,(lG s.needs (lG s.queues ⟨n,0⟩).2).1⟩
theorem p7 {α:Type}:∀(l:List α) (t:Tp),(lG l t).1.Sublist l
 | [],_=>List.Sublist.refl _
 | x :: l,t=>by
  unfold lG;cases !decide (t.v 5=1) with
  | true=>exact (p7 l t.s).cons_cons x
  | false=>exact (p7 l t.s).cons x
theorem GJ {s:Ws} (h:bb s=true) (n:List Int):bb (Md s n)=true:=Dy h (p7 _ _) (p7 _ _)
theorem yi {α:Type} (x:α) (l:List α) (t:Tp) (acc:List α):acc++(lG (x :: l) t).1=(bif !decide (t.v 5=1) then acc++[x] else acc)++(lG l t.s).1:=by
 show acc++(bif !decide (t.v 5=1) then x :: (lG l t.s).1 else (lG l t.s).1)=_;cases !decide (t.v 5=1) with
 | true=>rw [qCt,qCt,List.append_assoc];rfl
 | false=>rfl
theorem BZ {p:Pr}:∀{l:List Nd},(∀x∈l,x.proc≠p)->lr l p=none
 | [],_=>rfl
 | x :: l,h=>by
  rw [vt,qDf (h x (by simp)),qCf];exact BZ fun y hy=>h y (by simp [hy])
theorem J5 (s:Ws) (o:Opn):lr (i6 s o).needs o.proc=none:=by
 refine BZ fun x hx e=>?_;have:=(List.mem_filter.1 hx).2;rw [qDt e] at this;cases this
theorem GK {s:Ws} {o:Opn} (h:bb s=true) (ho:iT o=true) {i:Nat} {q:Qu} (hq:s.queues[i]? = some q) :
  ∃q',(i6 s o).queues[i]? = some q'/\ah q' o.proc=none/\q'.gen=q.gen/\q'.res=q.res/\
   (af q'.holds o.proc≠⟨0,0⟩->af q.holds o.proc≠⟨0,0⟩/\bc q'.res (af q.holds o.proc) (af q'.holds o.proc)=true)/\
   ∀p,p≠o.proc->af q.holds p≠⟨0,0⟩->af q'.holds p≠⟨0,0⟩/\bc q'.res (af q'.holds p) (af q.holds p)=true:=by
 have hs:=dc (mC h) (List.mem_of_getElem? hq);have ha:=jV ho hs;refine ⟨iZ o q,?_,ha.wan,ha.gen,ha.res,L8 hs ha,fun p hp h0=>?_⟩
 ·show (s.queues.map (iZ o))[i]? = _;rw [List.getElem?_map,hq];rfl
 ·rw [ha.res];exact L7 hs (ha.eff p hp) h0
theorem QA (d:Nat) (s:Ws) (by_:List Int) (hn:by_.length<=1000) (h1:s.queues.length<=1000) (h2:s.needs.length<=1000) {R:Ws} (hR:Md s by_=R):FSpec prog 21 [s.a d,.one (.sl fo by_)] [] [] (.v (R.a d)) []:=by
 refine aS func21 ?_;unfold Md at hR;obtain ⟨⟨Q,u⟩,hQ⟩:∃Q,lG s.queues ⟨by_,0⟩=Q:=⟨_,rfl⟩;rw [hQ] at hR;dsimp only at hR;obtain ⟨⟨N,u2⟩,hN⟩:∃N,lG s.needs u=N:=⟨_,rfl⟩;rw [hN] at hR;subst hR;have t0:TOk ⟨by_,0⟩:=⟨Nat.zero_le _,by show by_.length<=_;omega⟩;refine ao ?_;refine eG 6 0 1000 78 ic rfl rfl rfl rfl ?_;refine eG 6 1 1001 68 (B9 d) rfl rfl rfl rfl ?_;refine ab (fun y:Nat×List Qu×Tp=>y.1<=s.queues.length/\y.2.1.length<=y.1/\TOk y.2.2/\y.2.1++(lG (s.queues.drop y.1) y.2.2).1=Q/\(lG (s.queues.drop y.1) y.2.2).2=u) (fun y=>bC [2,4,6,11,1000,1001] [(2,.c (.ptr 2 0)),(4,.c (.ptr 4 0)),(5,.c (.ptr 11 0)),(6,.c (.ptr 6 0)),(7,.i y.1)] [(2,.box 28 (s.d d)),(4,.box 28 [.sc (.slice none 0 0),.sc (.slice none 0 0)]),(11,.box 138 (Ll y.2.2)),(6,.box 28 [.own 1000,.own 1001]),(1000,.arr 78 ic y.2.1),(1001,.arr 68 (B9 d) [])]) (fun y=>s.queues.length-y.1) (0,[],⟨by_,0⟩) ⟨Nat.zero_le _,Nat.le_refl _,t0,congrArg Prod.fst hQ,congrArg Prod.snd hQ⟩ aL ?_;clear hQ t0;rintro ⟨i,T,t⟩ ⟨hi,hTl,ht,hs,hu⟩;dsimp only at *
 by_cases hlt:i<s.queues.length
 ·obtain ⟨x,hx⟩:∃x,s.queues[i]? = some x:=⟨_,qGg hlt⟩;have ex:=qGs hx;rw [qDc hlt,ex] at hs hu;rw [yi] at hs;have hu:(lG (s.queues.drop (i+1)) t.s).2=u:=hu;obtain ⟨v,hv⟩:=qGe (t.v 5);have kN:=iS t 5 ht (by omega);have ht':=ht.s;rw [hv] at kN hs;generalize t.s=t' at *
  by_cases h5:v=1
  ·rw [qDt h5] at hs;repeat' (first|refine az ?_ ?_|refine aa 9 rfl (cH (qf [(0,11)]) kN ?_)|refine ay ?_|exact aA|(refine ax fun hb=>?_;first|(exact absurd h5 hb)|skip))
   refine ⟨(i+1,T,t'),⟨hlt,by dsimp only;omega,ht',hs,hu⟩,by dsimp only;omega,?_⟩;exact aL
  ·rw [qDf h5] at hs;repeat' (first|refine az ?_ ?_|(refine aa 8 rfl ?_;refine aK (ae rfl rfl (av rfl rfl) (aB [x] rfl rfl rfl rfl) rfl aE aE) rfl rfl rfl ?_)|refine aa 9 rfl (cH (qf [(0,11)]) kN ?_)|refine ay ?_|exact aA|(refine ax fun hb=>?_;first|(exact absurd hb h5)|skip))
   refine ⟨(i+1,T++[x],t'),⟨hlt,by simp;omega,ht',hs,hu⟩,by dsimp only;omega,?_⟩;exact a8 (qf [(1000,30)])
 rw [qDn (by omega)] at hs hu;obtain rfl:T=Q:=by rw [<-hs];exact (List.append_nil _).symm
 obtain rfl:t=u:=hu;clear hs hi;refine ao ?_;refine ab (fun y:Nat×List Nd×Tp=>y.1<=s.needs.length/\y.2.1.length<=y.1/\TOk y.2.2/\y.2.1++(lG (s.needs.drop y.1) y.2.2).1=N) (fun y=>bC [2,4,6,11,1000,1001] [(2,.c (.ptr 2 0)),(4,.c (.ptr 4 0)),(5,.c (.ptr 11 0)),(6,.c (.ptr 6 0)),(8,.i y.1)] [(2,.box 28 (s.d d)),(4,.box 28 [.sc (.slice none 0 0),.sc (.slice none 0 0)]),(11,.box 138 (Ll y.2.2)),(6,.box 28 [.own 1000,.own 1001]),(1000,.arr 78 ic T),(1001,.arr 68 (B9 d) y.2.1)]) (fun y=>s.needs.length-y.1) (0,[],t) ⟨Nat.zero_le _,Nat.le_refl _,ht,congrArg Prod.fst hN⟩ aL ?_;clear hN ht;rintro ⟨i,M,t⟩ ⟨hi,hMl,ht,hs⟩;dsimp only at *
 by_cases hlt:i<s.needs.length
 ·obtain ⟨x,hx⟩:∃x,s.needs[i]? = some x:=⟨_,qGg hlt⟩;have ex:=qGs hx;rw [qDc hlt,ex,yi] at hs;obtain ⟨v,hv⟩:=qGe (t.v 5);have kN:=iS t 5 ht (by omega);have ht':=ht.s;rw [hv] at kN hs;generalize t.s=t' at *
  by_cases h5:v=1
  ·rw [qDt h5] at hs;repeat' (first|refine az ?_ ?_|refine aa 9 rfl (cH (qf [(0,11)]) kN ?_)|refine ay ?_|exact aA|(refine ax fun hb=>?_;first|(exact absurd h5 hb)|skip))
   refine ⟨(i+1,M,t'),⟨hlt,by dsimp only;omega,ht',hs⟩,by dsimp only;omega,?_⟩;exact aL
  ·rw [qDf h5] at hs;repeat' (first|refine az ?_ ?_|(refine aa 8 rfl ?_;refine aK (ae rfl rfl (av rfl rfl) (aB [x] rfl rfl rfl rfl) rfl aE aE) rfl rfl rfl ?_)|refine aa 9 rfl (cH (qf [(0,11)]) kN ?_)|refine ay ?_|exact aA|(refine ax fun hb=>?_;first|(exact absurd hb h5)|skip))
   refine ⟨(i+1,M++[x],t'),⟨hlt,by simp;omega,ht',hs⟩,by dsimp only;omega,?_⟩;exact a8 (qf [(1001,50)])
 ·rw [qDn (by omega)] at hs;obtain rfl:M=N:=by rw [<-hs];exact (List.append_nil _).symm
  exact QY
theorem DE (l by_:List Int):FSpec prog 5 [.one (.sl fo l),.one (.sl fo by_)] [] [] (.b true) []:=by
 refine aS func5 ?_;have kA:=BM;obtain ⟨bl,hbl⟩:∃b,decide (l.length<=300)=b:=⟨_,rfl⟩;have kL:=IJ l hbl;cases bl with
 | false =>
  exact QY
 | true =>
 have hl:=of_decide_eq_true hbl;by_cases hby:20<by_.length
 ·exact QY
 have kC:=Bd 2 (by decide) l hl;have hcl:=Be l;have hcv:dA (s8 l)=true:=pG (gJ l).2 _ (mv (tX l));generalize s8 l=C at kC hcl hcv;have hw:=rv hcv;obtain ⟨L,hL⟩:=qGe (nT C 12);have kP:=JN 2 C 12 (by decide) hcl hL;have hok:∀o∈L,iT o=true:=fun o ho=>(E4 hcv (hL▸ho)).1;obtain ⟨O,hO⟩:=qGe (wG C);have kO:=Oh 2 C hO;rw [hO] at hw;obtain ⟨w1,w2,_,_⟩:=dU hw;obtain ⟨W,hW⟩:=qGe (Md O by_);have kR:=QA 2 O by_ (by omega) (by omega) (by omega) hW;have hWv:bb W=true:=hW▸GJ hw by_;have hLl:L.length<=12:=by rw [<-hL];unfold nT;simp;omega
 clear hL hW hO hw w1 w2 hcv hcl hbl;repeat' (first|refine az ?_ ?_|(refine aa 9 rfl ?_;first|(refine cB [] kL ?_)|(refine cC [] kC ?_)|(refine cC [] kO ?_)|(refine cC [] kR ?_)|(refine cH (qf [(0,1000)]) kP ?_))|refine ay ?_|exact aA|refine ax fun hb=>?_)
 refine kx 1000 rfl ?_;clear kC kO kR kP kL hby;refine ab (fun i:Nat=>i<=L.length) (fun i=>bC [6] [(6,.c (.ptr 6 0)),(36,.c (.sl vS L)),(37,.i L.length),(38,.i i)] [(6,.box 28 (W.d 2))]) (fun i=>L.length-i) 0 (Nat.zero_le _) aL ?_;intro i hi;by_cases hlt:i<L.length
 case neg =>
  exact QY
 obtain ⟨o,ho⟩:∃o,L[i]? = some o:=⟨_,qGg hlt⟩;have hop:=hok o (List.mem_of_getElem? ho);by_cases hin:o.proc∈aR W
 case neg =>
  have kQ:=zB 2 W o (Ma hWv hop hin);clear hok kA hin hWv hop;refine ao ?_;refine ⟨i+1,hlt,by omega,?_⟩;exact aL
 have kQ:=zB 2 W o (E0 hWv hop hin);have hXv:=GG hWv hop;have hXl:(i6 W o).queues.length=W.queues.length:=List.length_map ..;have hat:=fun (j:Nat) (q:Qu) (h:W.queues[j]? = some q)=>GK hWv hop h;have kN:=vw 2 (i6 W o) o.proc (J5 W o);obtain ⟨X,hX⟩:=qGe (i6 W o);rw [hX] at kQ hXv hXl hat kN;have kV:=mV 2 X;rw [hXv] at kV;obtain ⟨b1,b2,b3,b4⟩:=dU hWv;have kPr:=tU 2 W (by omega) (by omega) b3;obtain ⟨P,hP⟩:=qGe (aR W);rw [hP] at kPr b4;clear hok kA hin hWv hop hX b3 hP hXv;refine ao ?_;refine ab (fun j:Nat=>j<=X.queues.length) (fun j=>bC [6,8,9] [(6,.c (.ptr 6 0)),(8,.c (.ptr 8 0)),(9,.c (.ptr 9 0)),(13,.i j),(36,.c (.sl vS L)),(37,.i L.length),(38,.i i)] [(6,.box 28 (W.d 2)),(8,.box 46 o.d),(9,.box 28 (X.d 2))]) (fun j=>X.queues.length-j) 0 (Nat.zero_le _) aL ?_;clear kQ kV kN;intro j hj;by_cases hlj:j<X.queues.length
 case neg =>
  clear hat kPr;refine ao ?_;refine ⟨i+1,hlt,by omega,?_⟩;exact aL
 obtain ⟨q,hq⟩:∃q,W.queues[j]? = some q:=⟨_,qGg (by omega)⟩;obtain ⟨q',hq',hwn,hgen,hres,hown,hoth⟩:=hat j q hq;have kW:=ce q' o.proc hwn;clear hat hwn;refine ao ?_;refine ab (fun k:Nat=>k<=P.length) (fun k=>bC [6,8,9] [(6,.c (.ptr 6 0)),(8,.c (.ptr 8 0)),(9,.c (.ptr 9 0)),(13,.i j),(36,.c (.sl vS L)),(37,.i L.length),(38,.i i),(109,.c (.sl eh P)),(110,.i P.length),(111,.i k)] [(6,.box 28 (W.d 2)),(8,.box 46 o.d),(9,.box 28 (X.d 2))]) (fun k=>P.length-k) 0 (Nat.zero_le _) aL ?_;clear kW kPr hgen;intro k hk;by_cases hlk:k<P.length
 case neg =>
  clear hown hoth;refine ao ?_;refine ⟨j+1,hlj,by omega,?_⟩;exact aL
 obtain ⟨p,hp⟩:∃p,P[k]? = some p:=⟨_,qGg hlk⟩;have kH1:=eT q p;have kH2:=eT q' p;have hoth:=hoth p;by_cases hpo:p=o.proc
 ·subst hpo;clear hoth;obtain ⟨a,ha⟩:=qGe (af q.holds o.proc);obtain ⟨b,hb0⟩:=qGe (af q'.holds o.proc);rw [ha] at hown kH1;rw [hb0] at hown kH2;have kZb:=eH b;clear ha hb0;cases hz:aJ b with
  | true =>
   rw [hz] at kZb;clear hown;repeat' (first|refine az ?_ ?_|(refine aa 9 rfl ?_;first|(refine cB [] kH1 ?_)|(refine cB [] kH2 ?_)|(refine cB [] kZb ?_))|refine ay ?_|exact aA|(refine ax fun hb=>?_;first|(exact absurd rfl hb)|skip))
   refine ⟨k+1,hlk,by omega,?_⟩;exact aL
  | false =>
   rw [hz] at kZb;obtain ⟨h1,h2⟩:=hown (bg.1 hz);have kZa:=eH a;rw [bg.2 h1] at kZa;have kCv:=dt q'.res a b;rw [h2] at kCv;clear hown h1 h2 hz;repeat' (first|refine az ?_ ?_|(refine aa 9 rfl ?_;first|(refine cB [] kH1 ?_)|(refine cB [] kH2 ?_)|(refine cB [] kZb ?_)|(refine cB [] kZa ?_)|(refine cB [] kCv ?_))|refine ay ?_|exact aA|(refine ax fun hb=>?_;first|(exact absurd rfl hb)|skip))
   refine ⟨k+1,hlk,by omega,?_⟩;exact aL
 ·have hoth:=hoth hpo;clear hown;obtain ⟨a,ha⟩:=qGe (af q.holds p);obtain ⟨b,hb0⟩:=qGe (af q'.holds p);rw [ha] at hoth kH1;rw [hb0] at hoth kH2;have kZa:=eH a;clear ha hb0;cases hz:aJ a with
  | true =>
   rw [hz] at kZa;clear hoth;repeat' (first|refine az ?_ ?_|(refine aa 9 rfl ?_;first|(refine cB [] kH1 ?_)|(refine cB [] kH2 ?_)|(refine cB [] kZa ?_))|refine ay ?_|exact aA|(refine ax fun hb=>?_;first|(exact absurd hb hpo)|skip))
   refine ⟨k+1,hlk,by omega,?_⟩;exact aL
  | false =>
   rw [hz] at kZa;obtain ⟨h1,h2⟩:=hoth (bg.1 hz);have kZb:=eH b;rw [bg.2 h1] at kZb;have kCv:=dt q'.res b a;rw [h2] at kCv;clear hoth h1 h2 hz;repeat' (first|refine az ?_ ?_|(refine aa 9 rfl ?_;first|(refine cB [] kH1 ?_)|(refine cB [] kH2 ?_)|(refine cB [] kZa ?_)|(refine cB [] kZb ?_)|(refine cB [] kCv ?_))|refine ay ?_|exact aA|(refine ax fun hb=>?_;first|(exact absurd hb hpo)|skip))
   refine ⟨k+1,hlk,by omega,?_⟩;exact aL
end Go.Proofs.YtkkbopkbjacfmaaGreatDoor
