/- Part K35 of a proof of statements of chapter 15 (no condition). -/
import Derived.Test.YtkkbopkbjacfmaaGreatDoorK32
import Derived.Test.YtkkbopkbjacfmaaGreatDoorK30
set_option linter.unusedVariables false
set_option linter.unusedSimpArgs false
set_option maxRecDepth 100000
set_option maxHeartbeats 64000000
namespace Go.Proofs.YtkkbopkbjacfmaaGreatDoor
open Go.RowKit Go.Proofs.Tryz
def Pe (p:Pc) (s:Sv):Opn:=Kd p (bw p.led s.label) s.label
def vU (p:Pc):List Opn:=p.led.saves.reverse.map (Pe p)++[Kd p Lg.zero (-1)]
def ie (p:Pc):List Opn:=bif !(gm p.proc && decide (1<=p.cost) && decide (p.cost<=1000) && qT p.led && (!p.waiting || qW p.req)) then [] else bif (vU p).all iT then vU p else []
theorem rk {g:Lg} (h:qT g=true) {s:Sv} (hs:s∈g.saves):∃A,cd g s.label=(bw g s.label,A,0)/\(bw g s.label).entries.length<=g.entries.length:=by
 have hl:=(fZ.1 h);have h1:¬s.label=0:=by have:=(hl.svs.lab s hs).1.1;omega
 have h2:¬aO s.label 0 g.saves<0:=fun hn=>od.1 hn s hs rfl;refine ⟨_,by unfold cd;rw [h,qDf h1,qDf h2];rfl,?_⟩;unfold bw;rw [qDf h1,qCf];simp;omega
theorem IK (d:Nat) (p:Pc) {R:List Opn} (hR:ie p=R):FSpec prog 71 [p.a d] [] [] (.c (.sl vS R)) []:=by
 refine aS func71 ?_;unfold ie at hR;have kV:=eS p.proc;have kG:=co p.led;have kQ:=vy d p.req;obtain ⟨v,hv⟩:=qGe (gm p.proc);obtain ⟨g,hg⟩:=qGe (qT p.led);obtain ⟨q,hq⟩:=qGe (qW p.req);rw [hv] at kV hR;rw [hg] at kG hR;rw [hq] at kQ hR;by_cases hA:v=true/\(1<=p.cost/\p.cost<=1000)/\g=true/\(p.waiting=true->q=true)
 case neg =>
  obtain rfl:R=[]:=by
   rw [<-hR];cases hh:v && decide (1<=p.cost) && decide (p.cost<=1000) && g && (!p.waiting || q) with
   | false=>rfl
   | true =>
    simp only [qBa,Bool.or_eq_true,decide_eq_true_eq,Bool.not_eq_true'] at hh;exact absurd ⟨hh.1.1.1.1,⟨hh.1.1.1.2,hh.1.1.2⟩,hh.1.2,fun hw=>by
     rcases hh.2 with h|h
     ·rw [hw] at h;cases h
     ·exact h⟩ hA
  cases v with
  | false =>
   exact QY
  | true =>
   by_cases hc:p.cost<1
   ·exact QY
   by_cases hc2:1000<p.cost
   ·exact QY
   cases g with
   | false =>
    exact QY
   | true =>
    cases hw:p.waiting with
    | false=>exact absurd ⟨rfl,⟨by omega,by omega⟩,rfl,fun h=>by rw [hw] at h;cases h⟩ hA
    | true =>
     cases q with
     | true=>exact absurd ⟨rfl,⟨by omega,by omega⟩,rfl,fun _=>rfl⟩ hA
     | false =>
      exact QY
 obtain ⟨rfl,⟨hc1,hc2⟩,rfl,hwq⟩:=hA;rw [qDt hc1,qDt hc2,show (!p.waiting || q)=true by cases hw:p.waiting with|false=>rfl|true=>rw [hwq hw];rfl] at hR;have hR:(bif (vU p).all iT then vU p else [])=R:=hR;obtain ⟨h72,h4⟩:=gK hg;cases hw:p.waiting
 case' true =>
  have hq1:=hwq hw;subst hq1;refine ao ?_
 case' false =>
  refine ao ?_
 all_goals
  refine bK 3 1000 46 vS rfl rfl rfl ?_;refine ab (fun y:Nat×List Opn=>y.1<=p.led.saves.length/\y.2.length+y.1=p.led.saves.length/\y.2=(p.led.saves.drop y.1).reverse.map (Pe p)) (fun y=>bC [1,1000] [(1,.c (.ptr 1 0)),(3,.c (.own 1000)),(4,.i ((y.1:Int)-1))] [(1,.box 121 (p.d d)),(1000,.arr 46 vS y.2)]) (fun y=>y.1) (p.led.saves.length,[]) ⟨Nat.le_refl _,by simp,by simp⟩ aL ?_;rintro ⟨k,T⟩ ⟨hk,hTl,hT⟩;dsimp only at *
  cases k with
  | succ m =>
   have hm:m<p.led.saves.length:=hk;have em:(((m+1:Nat):Int)-1).toNat=m:=by omega
   obtain ⟨s,hs⟩:∃s,p.led.saves[(((m+1:Nat):Int)-1).toNat]? = some s:=⟨_,by rw [em];exact qGg hm⟩;have hs':p.led.saves[m]=s:=by
    rw [em] at hs;exact (List.getElem?_eq_some_iff.1 hs).2
   obtain ⟨A,hU,hle⟩:=rk hg (hs'▸List.getElem_mem hm);have kU:=My p.led s.label hU;obtain ⟨O,hO⟩:=qGe (Pe p s);have kO:=Eu d p (bw p.led s.label) s.label hle h72 ⟨by omega,hc2⟩ hO;have hnx:T++[O]=(p.led.saves.drop m).reverse.map (Pe p):=by
    rw [hT,qDc hm,hs',List.reverse_cons,List.map_append,<-hO];rfl
   generalize bw p.led s.label=X at *
   clear hU hO hle;repeat' (first|refine az ?_ ?_|(refine aa 8 rfl ?_;refine aK (ae rfl rfl (av rfl rfl) (aB [O] rfl rfl rfl rfl) rfl aE aE) rfl rfl rfl ?_)|(refine aa 9 rfl ?_;first|(refine cC [] kU ?_)|(refine cC [] kO ?_))|refine ay ?_|exact aA|refine ax fun hb=>?_)
   refine ⟨(m,T++[O]),⟨by dsimp only;omega,by simp;omega,hnx⟩,by dsimp only;omega,?_⟩;exact a8 (qf [(1000,77)])
  | zero =>
   obtain ⟨O,hO⟩:=qGe (Kd p Lg.zero (-1));have kO:=Eu d p Lg.zero (-1) (Nat.zero_le _) h72 ⟨by omega,hc2⟩ hO;have hL:vU p=T++[O]:=by unfold vU;rw [hT,hO];simp
   rw [hL] at hR;have hLl:(T++[O]).length<=5:=by simp;omega
   clear hO hL hT;repeat' (first|refine az ?_ ?_|(refine aa 8 rfl ?_;refine aK (ae rfl rfl (av rfl rfl) (aB [O] rfl rfl rfl rfl) rfl aE aE) rfl rfl rfl ?_)|refine aa 9 rfl (cC [] kO ?_)|refine ay ?_|exact aA|refine ax fun hb=>?_)
   generalize T++[O]=L at *
   refine ab (fun i=>i<=L.length/\L.all iT=(L.drop i).all iT) (fun i=>bC [1,1000] [(1,.c (.ptr 1 0)),(3,.c (.own 1000)),(84,.c (.own 1000)),(85,.i L.length),(86,.i i)] [(1,.box 121 (p.d d)),(1000,.arr 46 vS L)]) (fun i=>L.length-i) 0 ⟨Nat.zero_le _,rfl⟩ (by exact a8 (qf [(1000,83)])) ?_;rintro i ⟨hi,hs⟩;by_cases hlt:i<L.length
   ·obtain ⟨x,hx⟩:∃x,L[i]? = some x:=⟨_,qGg hlt⟩;have ex:=qGs hx;rw [qDc hlt,ex,List.all_cons] at hs;obtain ⟨b,hb0⟩:=qGe (iT x);have kX:=Lr x hb0;rw [hb0] at hs;cases b with
    | false =>
     rw [hs] at hR;obtain rfl:R=[]:=hR.symm;exact QY
    | true =>
     refine ao ?_;refine ⟨i+1,⟨by omega,by rw [hs,Bool.true_and]⟩,by omega,?_⟩;exact aL
   ·rw [qDn (by omega),List.all_nil] at hs;rw [hs] at hR;obtain rfl:R=L:=hR.symm;exact QY
def lI (n:ByteArray) (E:List En) (i:Nat) (s:Sv):Sv:=⟨s.label,s.at_-((E.take (min i s.at_.toNat)).countP fun e=>!oth n e:Nat)⟩
theorem IM (n:ByteArray) (E:List En) (s:Sv):lI n E 0 s=s:=by
 cases s;simp [lI]
theorem IN {n:ByteArray} {E:List En} {i:Nat} (hi:i<E.length) (h:oth n E[i]=true) (s:Sv):lI n E (i+1) s=lI n E i s:=by
 unfold lI;by_cases hs:s.at_.toNat<=i
 ·rw [Nat.min_eq_right hs,Nat.min_eq_right (by omega)]
 ·rw [Nat.min_eq_left (by omega),Nat.min_eq_left (by omega),List.take_succ_eq_append_getElem hi,List.countP_append];simp [h]
theorem Lt {n:ByteArray} {E:List En} {i:Nat} {s:Sv} (hs:s.at_<=i):lI n E (i+1) s=lI n E i s:=by
 unfold lI;rw [Nat.min_eq_right (by omega),Nat.min_eq_right (by omega)]
theorem IP {n:ByteArray} {E:List En} {i:Nat} (hi:i<E.length) (h:oth n E[i]=false) {s:Sv} (hs:(i:Int)<s.at_):lI n E (i+1) s=⟨s.label,(lI n E i s).at_-1⟩:=by
 unfold lI;rw [Nat.min_eq_left (by omega),Nat.min_eq_left (by omega),List.take_succ_eq_append_getElem hi,List.countP_append];simp [h];omega
theorem Lu {n:ByteArray} {E:List En} {s:Sv} (h0:0<=s.at_) (h1:s.at_<=E.length):lI n E E.length s=⟨s.label,((E.take s.at_.toNat).filter (oth n)).length⟩:=by
 unfold lI;rw [Nat.min_eq_right (by omega),<-List.countP_eq_length_filter];have h2:=List.length_eq_countP_add_countP (oth n) (l:=E.take s.at_.toNat);have h3:(E.take s.at_.toNat).length=s.at_.toNat:=by simp;omega
 congr 1
 have h4:(fun a=>decide ¬oth n a=true)=fun e=>!oth n e:=by funext e;cases oth n e <;> rfl
 rw [h4] at h2;omega
theorem C2 {n:ByteArray} {E:List En} {i:Nat} {s:Sv} (h0:0<=s.at_):0<=(lI n E i s).at_/\(lI n E i s).at_<=s.at_:=by
 unfold lI;have:=List.countP_le_length (p:=fun e=>!oth n e) (l:=E.take (min i s.at_.toNat));rw [List.length_take] at this;dsimp only;omega
def Ey (n:ByteArray) (E:List En) (S:List Sv) (i k:Nat):List Sv:=(S.take k).map (lI n E (i+1))++(S.drop k).map (lI n E i)
theorem zf {n:ByteArray} {E:List En} {S:List Sv} {i k:Nat}:(Ey n E S i k).length=S.length:=by simp [Ey];omega
theorem IQ {n:ByteArray} {E:List En} {S:List Sv} {i:Nat}:Ey n E S i 0=S.map (lI n E i):=by simp [Ey]
theorem Lv {n:ByteArray} {E:List En} {S:List Sv} {i k:Nat} (h:S.length<=k):Ey n E S i k=S.map (lI n E (i+1)):=by simp [Ey,List.take_of_length_le h,qDn h]
theorem zg {n:ByteArray} {E:List En} {S:List Sv} {i k:Nat} (h:k<=S.length) (j:Nat):(Ey n E S i k)[j]? = S[j]?.map fun s=>if j<k then lI n E (i+1) s else lI n E i s:=by
 have hl:((S.take k).map (lI n E (i+1))).length=k:=by rw [List.length_map,List.length_take];omega
 unfold Ey;by_cases hj:j<k
 ·rw [List.getElem?_append_left (by omega),List.getElem?_map,List.getElem?_take_of_lt hj];simp [hj]
 ·rw [List.getElem?_append_right (by omega),hl,List.getElem?_map,List.getElem?_drop,show k+(j-k)=j by omega];simp [hj]
theorem IR {n:ByteArray} {E:List En} {S:List Sv} {i k:Nat} (h:k<S.length):(Ey n E S i k)[k]? = some (lI n E i S[k]):=by
 rw [zg (by omega)];simp [h]
theorem Ez {n:ByteArray} {E:List En} {S:List Sv} {i k:Nat} (h:k<S.length) {z:Sv} (hz:lI n E (i+1) S[k]=z):(Ey n E S i k).set k z=Ey n E S i (k+1):=by
 subst hz;apply List.ext_getElem?
 intro j;rw [List.getElem?_set,zf,zg (by omega),zg (by omega)];by_cases hj:k=j
 ·subst hj;simp [h]
 ·rw [if_neg hj];have:(j<k↔j<k+1):=by omega
  simp [this]
theorem IS {n:ByteArray} {E:List En} {S:List Sv} {i k:Nat} (h:k<S.length) (hz:lI n E (i+1) S[k]=lI n E i S[k]):Ey n E S i k=Ey n E S i (k+1):=by
 rw [<-Ez h rfl,hz];apply List.ext_getElem?
 intro j;rw [List.getElem?_set];by_cases hj:k=j
 ·subst hj;rw [IR h,zf];simp [h]
 ·rw [if_neg hj]
def Ph (R:Lg×Bool):TV:=.tup [R.1.a,.one (.sc (.bool R.2))]
theorem NO (g:Lg) (n:ByteArray) {R:Lg×Bool} (hR:mi g n=R):FSpec prog 277 [g.a,.one (.sc (.string n))] [] [] (Ph R) []:=by
 refine aS func277 ?_;cases hV:qT g with
 | false =>
  obtain rfl:R=(.zero,false):=by rw [<-hR];simp [mi,hV]
  repeat' (first|refine az ?_ ?_|refine aa 9 rfl (cB [] (co g) ?_)|refine ay ?_|exact aA|refine ax fun hb=>?_|(refine gG (qf []) ?_;exact ak))
 | true =>
  obtain ⟨h1,h2⟩:=gK hV;have hat:=C0 hV;obtain ⟨E,hE⟩:=qGe g.entries;obtain ⟨S,hS⟩:=qGe g.saves;repeat' (first|refine az ?_ ?_|refine aa 9 rfl (cB [] (co g) ?_)|refine ay ?_|exact aA|refine ax fun hb=>?_)
  refine eG 6 0 1000 200 jp rfl rfl rfl rfl ?_;have hX:iI g n=⟨E.filter (oth n),S.map (lI n E E.length)⟩:=by
   unfold iI;rw [<-hE,<-hS];congr 1
   refine List.map_congr_left fun x hx=>?_;obtain ⟨k1,k2⟩:=hat x hx;exact (Lu k1 k2).symm
  have hatS:∀x∈S,0<=x.at_/\x.at_<=E.length:=by rw [<-hE,<-hS];exact hat
  have hst:mi g n=bif decide ((E.filter (oth n)).length=E.length) then (.zero,false) else (⟨E.filter (oth n),S.map (lI n E E.length)⟩,true):=by
   unfold mi;rw [hV,hX,hE];rfl
  rw [hst] at hR;have hf72:∀i,((E.take i).filter (oth n)).length<=i:=fun i=>by
   have:=List.length_filter_le (oth n) (E.take i);rw [List.length_take] at this;omega
  have hE72:E.length<=72:=by rw [<-hE];exact h1
  have hS4:S.length<=4:=by rw [<-hS];exact h2
  clear hat hst hX h1 hb;refine ab (fun i=>i<=E.length) (fun i=>bC [2,4,6,13,1000,1001] [(1,.c (.sc (.string n))),(2,.c (.ptr 2 0)),(4,.c (.ptr 4 0)),(6,.c (.ptr 6 0)),(7,.i i)] [(2,.box 119 [.sl jp E,.sl ji S]),(4,.box 119 [.sc (.slice none 0 0),.sc (.slice none 0 0)]),(6,.box 119 [.own 1000,.own 1001]),(1000,.arr 200 jp ((E.take i).filter (oth n))),(1001,.arr 197 ji (S.map (lI n E i)))]) (fun i=>E.length-i) 0 (Nat.zero_le _) (by rw [show lI n E 0=id from funext (IM n E),List.map_id];subst hE hS;exact a8 (qf [(1001,16)])) ?_;rintro i hi;try dsimp only at *
  by_cases hlt:i<E.length
  case neg =>
   obtain rfl:i=E.length:=by omega
   rw [List.take_length];by_cases hfl:(E.filter (oth n)).length=E.length
   ·obtain rfl:R=(.zero,false):=by rw [<-hR,qDt hfl];rfl
    repeat' (first|refine az ?_ ?_|refine ay ?_|exact aA|(refine ax fun hb=>?_;first|(exact absurd (Int.ofNat.inj hb) (by omega))|skip)|(refine gG (qf []) ?_;exact ak))
   ·obtain rfl:R=(⟨E.filter (oth n),S.map (lI n E E.length)⟩,true):=by rw [<-hR,qDf hfl];rfl
    repeat' (first|refine az ?_ ?_|refine ay ?_|exact aA|(refine ax fun hb=>?_;first|(exact absurd (Int.ofNat.inj hb) hfl)|skip)|(refine gG (qf []) ?_;exact ak))
  obtain ⟨e,he⟩:=qGe (E[i]);have hge:E[i]? = some e:=by rw [qGg hlt,he]
  by_cases hnm:e.name.toList=n.toList
  case neg =>
   have ho:oth n e=true:=by simp [oth,aV,hnm]
   have hf1:=hf72 i;repeat' (first|refine az ?_ ?_|(refine aa 8 rfl ?_;refine aK (ae rfl rfl (av rfl rfl) (aB [e] rfl rfl rfl rfl) rfl aE aE) rfl rfl rfl ?_)|refine ay ?_|exact aA|refine ax fun hb=>?_)
   refine ⟨i+1,by omega,by omega,?_⟩;have e1:(E.take (i+1)).filter (oth n)=(E.take i).filter (oth n)++[e]:=by rw [List.take_succ_eq_append_getElem hlt,he,List.filter_append];simp [ho]
   have e2:S.map (lI n E (i+1))=S.map (lI n E i):=List.map_congr_left fun x _=>IN hlt (by rw [he];exact ho) x;rw [e1,e2];exact a8 (qf [(1000,41)])
  have ho:oth n e=false:=by simp [oth,aV,hnm]
  have ho':oth n E[i]=false:=by rw [he];exact ho
  have e1:(E.take (i+1)).filter (oth n)=(E.take i).filter (oth n):=by rw [List.take_succ_eq_append_getElem hlt,he,List.filter_append];simp [ho]
  repeat' (first|refine az ?_ ?_|refine ay ?_|exact aA|refine ax fun hb=>?_)
  refine ab (fun k=>k<=S.length) (fun k=>bC [2,4,6,13,1000,1001] [(1,.c (.sc (.string n))),(2,.c (.ptr 2 0)),(4,.c (.ptr 4 0)),(6,.c (.ptr 6 0)),(7,.i i),(8,.i k)] [(2,.box 119 [.sl jp E,.sl ji S]),(4,.box 119 [.sc (.slice none 0 0),.sc (.slice none 0 0)]),(6,.box 119 [.own 1000,.own 1001]),(1000,.arr 200 jp ((E.take i).filter (oth n))),(1001,.arr 197 ji (Ey n E S i k))]) (fun k=>S.length-k) 0 (Nat.zero_le _) (by rw [IQ];exact aL) ?_;rintro k hk;try dsimp only at *
  have hdl:=zf (n:=n) (E:=E) (S:=S) (i:=i) (k:=k);by_cases hlk:k<S.length
  case neg =>
   have hend:=Lv (n:=n) (E:=E) (S:=S) (i:=i) (k:=k) (by omega);rw [hend] at hdl ⊢;clear hend;repeat' (first|refine az ?_ ?_|refine ay ?_|exact aA|refine ax fun hb=>?_)
   refine ⟨i+1,by omega,by omega,?_⟩;rw [e1];exact aL
  obtain ⟨x,hx⟩:=qGe (S[k]);have hgx:S[k]? = some x:=by rw [qGg hlk,hx]
  have hgd:=IR (n:=n) (E:=E) (i:=i) hlk;rw [hx] at hgd;obtain ⟨k1,k2⟩:=hatS x (hx▸List.getElem_mem hlk);have hyb:=C2 (n:=n) (E:=E) (i:=i) k1;obtain ⟨y,hy⟩:=qGe (lI n E i x);by_cases hgt:(i:Int)<x.at_
  ·have hz:lI n E (i+1) x=⟨x.label,y.at_-1⟩:=by rw [IP hlt ho' hgt,hy]
   have hyl:y.label=x.label:=by rw [<-hy];rfl
   rw [hy] at hgd hyb;have hset:=Ez (i:=i) (n:=n) (E:=E) hlk (z:=⟨y.label,y.at_-1⟩) (by rw [hx,hz,hyl]);repeat' (first|refine az ?_ ?_|refine ay ?_|(refine aa 4 rfl ?_;refine bW (aM (z:=⟨y.label,y.at_-1⟩) rfl rfl rfl rfl hgd rfl rfl rfl rfl (qNl rfl) rfl rfl) rfl rfl rfl ?_)|exact aA|refine ax fun hb=>?_)
   refine ⟨k+1,by omega,by omega,?_⟩;rw [<-hset];exact aL
  ·have hsm:=IS (n:=n) (E:=E) (i:=i) hlk (by rw [hx];exact Lt (by omega));repeat' (first|refine az ?_ ?_|refine ay ?_|exact aA|refine ax fun hb=>?_)
   refine ⟨k+1,by omega,by omega,?_⟩;rw [<-hsm];exact aL
def MA (w:Wk) (i:Nat) (n:ByteArray):Prop:=i<w.c.procs.length/\w.ev.length<=900000/\((w.pc i).waiting=false->aw (w.pc i).led.entries n≠⟨0,0⟩->StOk (tn w i n).c.procs.length (tn w i n))
theorem C3 (w:Wk) (i:Nat) (n:ByteArray):eQ w i n=bif (w.pc i).waiting then (w,14) else bif decide (aw (w.pc i).led.entries n=⟨0,0⟩) then (w,10) else (be (tn w i n).c.procs.length (tn w i n),0):=rfl
theorem IT (d:Nat) (w:Wk) (i:Nat) (n:ByteArray) (hok:MA w i n) {Z:Wk×Int} (hZ:eQ w i n=Z):FSpec prog 185 [ls,lD i,.one (.sc (.string n))] (HI d w) [3,4] (.i Z.2) (HO d Z.1):=by
 refine aS func185 ?_;obtain ⟨hi,hev,hst⟩:=hok;obtain ⟨x,hx⟩:∃x,w.c.procs[i]? = some x:=⟨_,qGg hi⟩;have hpc:=lv hx;rw [C3] at hZ;unfold tn at hZ hst;rw [hpc] at hZ hst;cases hw:x.waiting with
 | true =>
  obtain rfl:Z=(w,14):=by rw [<-hZ,hw];rfl
  refine ao ?_
  (refine cn (qf [(3,1),(4,2)]) ?_;exact ak)
 | false =>
  obtain ⟨l,hl⟩:=qGe (aw x.led.entries n);have kL:=jk x.led.entries n;rw [hw,hl,qCf] at hZ;rw [hl] at hst kL;by_cases h0:l=⟨0,0⟩
  ·obtain rfl:Z=(w,10):=by rw [<-hZ,qDt h0];rfl
   refine ao ?_
   (refine cn (qf [(3,1),(4,2)]) ?_;exact ak)
  ·have hs:=hst hw h0;rw [qDf h0,qCf] at hZ;obtain ⟨R,hR⟩:=qGe (cO w.c.queues x.proc ⟨n,⟨0,0⟩⟩);have hll:=gC w.c.queues x.proc ⟨n,⟨0,0⟩⟩;rw [hR] at hll;obtain ⟨D0,hD⟩:=qGe (mi x.led n);unfold fK at hZ hs;rw [hR,hD] at hZ hs;have hvi:i<((w.take R.1 R.2.1).setP i { x with led:=D0.1 }).c.procs.length:=by rw [gX];exact hi
   have hgt:(w.take R.1 R.2.1).c.procs.length=w.c.procs.length:=rfl;obtain ⟨F,hF⟩:∃F,be (bi ((w.take R.1 R.2.1).setP i { x with led:=D0.1 }) i).c.procs.length (bi ((w.take R.1 R.2.1).setP i { x with led:=D0.1 }) i)=F:=⟨_,rfl⟩;obtain rfl:Z=(F,0):=by rw [<-hZ];exact congrArg (fun z=>(z,(0:Int))) hF
   have kS:=nh d _ _ hs;rw [show be (bi ((w.take R.1 R.2.1).setP i { x with led:=D0.1 }) i).c.procs.length (bi ((w.take R.1 R.2.1).setP i { x with led:=D0.1 }) i)=F from hF] at kS;clear hZ hst hF;repeat' (first|refine az ?_ ?_|(refine aa 9 rfl ?_;first|(refine cB [] kL ?_)|(refine cC [] (tV w.c.queues x.proc ⟨n,⟨0,0⟩⟩ hR) ?_)|(refine cH (qf [(3,1003),(4,1004)]) (sW d w R.1 R.2.1 (by omega)) ?_)|(refine cC [] (NO x.led n hD) ?_)|(refine cH (qf [(1,1003),(2,1004),(3,1005),(4,1006)]) (ov d ((w.take R.1 R.2.1).setP i { x with led:=D0.1 }) i hvi) ?_)|(refine cH (qf [(1,1005),(2,1006),(3,1007),(4,1008)]) kS ?_))|refine ay ?_|(refine aa 4 rfl ?_;refine bW (aM (z:={ x with led:=D0.1 }) rfl rfl rfl rfl hx rfl rfl rfl rfl (qNl rfl) rfl rfl) rfl rfl rfl ?_)|exact aA|(refine ax fun hb=>?_;first|(cases hw.symm.trans hb;done)|(exact absurd hb h0)|skip)|(refine cn (qf [(3,1007),(4,1008)]) ?_;exact ak))
   all_goals fail "stands"
end Go.Proofs.YtkkbopkbjacfmaaGreatDoor
