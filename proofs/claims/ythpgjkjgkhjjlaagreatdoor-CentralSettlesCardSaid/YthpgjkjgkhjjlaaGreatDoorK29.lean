/- Part K29 of a proof of statements of chapter 15 (no condition). -/
import Derived.Test.YthpgjkjgkhjjlaaGreatDoorK25
import Derived.Test.YthpgjkjgkhjjlaaGreatDoorK27
set_option linter.unusedVariables false
set_option linter.unusedSimpArgs false
set_option maxRecDepth 100000
set_option maxHeartbeats 64000000
namespace Go.Proofs.YthpgjkjgkhjjlaaGreatDoor
open Go.RowKit Go.Proofs.Tryz
theorem Ij (w:World) (S:Nat->Prop):eh.rep w S jj (Value.agg #[.string { data:=#[] },.int .i64 0,.int .i64 0,.int .i64 0,.slice none 0 0,.slice none 0 0,.slice none 0 0,.int .i64 0]).cells.toList :=
 ⟨rfl,rfl,rfl,rfl,⟨none,0,rfl,⟨Nat.le_refl _,Nat.zero_le _⟩,[],rfl,fun h=>absurd h (by decide)⟩,⟨none,0,rfl,⟨Nat.le_refl _,Nat.zero_le _⟩,[],rfl,fun h=>absurd h (by decide)⟩,⟨none,0,rfl,⟨Nat.le_refl _,Nat.zero_le _⟩,[],rfl,fun h=>absurd h (by decide)⟩,rfl,trivial⟩
theorem sD (t:List Qu) (j:Int) (q:Qu) {R:List Qu} (hl:t.length<=8) (h8:∀q∈t,fU q) (hj:(j<0/\t=R)\/∃i:Nat,i<t.length/\j=i/\t.set i q=R):FSpec prog 213 [.one (.sl eh t),iV j,q.a] [] [0] (.c (.own 0)) [(0,some (.arr 66 eh R))]:=by
 refine a7 func213 ?_;repeat' (first|refine av ?_ ?_|(refine aa 20 rfl ?_;refine sx (Cj (E:=eh) (n:=t.length) (z:=.agg #[.string { data:=#[] },.int .i64 0,.int .i64 0,.int .i64 0,.slice none 0 0,.slice none 0 0,.slice none 0 0,.int .i64 0]) jj rfl rfl rfl rfl (by omega) (by kernel_rfl) Ij (by decide)) ?_)|refine aq ?_|exact aw|refine ap fun hb=>?_)
 refine ab (fun i=>i<=t.length) (fun i=>bP [5,1000] [(1,.i j),(5,.c (.ptr 5 0)),(7,.c (.own 1000)),(13,.c (.sl eh t)),(14,.i t.length),(15,.i i)] [(5,.box 66 q.d),(1000,.arr 66 eh (t.take i++List.replicate (t.length-i) jj))]) (fun i=>t.length-i) 0 (Nat.zero_le _) (by exact bo (qf [(1000,12)])) ?_;intro i hi;have hRl:(t.take i++List.replicate (t.length-i) jj).length=t.length:=by simp;omega
 by_cases hlt:i<t.length
 ·obtain ⟨x,hx⟩:=qGe (t[i]);have hgx:t[i]? = some x:=by rw [qGg hlt,hx]
  have hq:=h8 _ (List.getElem_mem hlt);rw [hx] at hq;obtain ⟨q1,q2,q3⟩:=hq;have hset:(t.take i++List.replicate (t.length-i) jj).set i x=t.take (i+1)++List.replicate (t.length-(i+1)) jj:=by
   exact Vj
  have hgi:(t.take i++List.replicate (t.length-i) jj)[i]? = some jj:=by
   exact VK
  obtain ⟨L,hL⟩:=qGe (t.take i++List.replicate (t.length-i) jj);rw [hL] at hRl hset hgi ⊢;clear h8 hj hL;repeat' (first|refine av ?_ ?_|((fail_if_success (first|refine m8 8 ?_|refine m9 8 ?_));refine aq ?_)|exact aw|refine ap fun hb=>?_)
  refine gU 22 rfl ?_;refine gU 26 rfl ?_;refine gU 30 rfl ?_;repeat' (first|refine av ?_ ?_|refine aq ?_|(refine aa 4 rfl ?_;refine a8 (ak (z:=x) rfl rfl rfl rfl hgi rfl rfl rfl rfl (qNl rfl) rfl rfl) rfl rfl rfl ?_)|exact aw|refine ap fun hb=>?_)
  refine ⟨i+1,by omega,by omega,?_⟩;rw [<-hset];exact aT
 ·have e:t.take i++List.replicate (t.length-i) jj=t:=by rw [List.take_of_length_le (by omega),show t.length-i=0 by omega];simp
  rw [e];clear h8;rcases hj with ⟨j1,rfl⟩|⟨k,k1,rfl,rfl⟩
  ·refine ao ?_
   (refine cc (qf [(0,1000)]) ?_;exact af)
  ·have hgk:t[k]? = some t[k]:=qGg k1;repeat' (first|refine av ?_ ?_|refine aq ?_|(refine aa 4 rfl ?_;refine a8 (ak (z:=q) rfl rfl rfl rfl hgk rfl rfl rfl rfl (qNl rfl) rfl rfl) rfl rfl rfl ?_)|exact aw|refine ap fun hb=>?_|(refine cc (qf [(0,1000)]) ?_;exact af))
def Ev.a (x:Ev):V0:=.ag [.sc (.int .i64 x.kind),.sc (.int .i64 x.proc.site),.sc (.int .i64 x.proc.inc),.sc (.int .i64 x.proc.num),.sc (.string x.name),.sc (.int .i64 x.am.mode),.sc (.int .i64 x.am.units)]
theorem Mk (p:Pr) (n:ByteArray) (a:Am):FSpec prog 219 [p.a,.one (.sc (.string n)),a.a] [] [] (.v (Ev.a ⟨3,p,n,a⟩)) []:=by
 refine a7 func219 ?_;exact UG
theorem yK (n:ByteArray) (l:List Ho) (ev:List Ev) (x:Ev) (hl:l.length<=1000) (he:ev.length<=100000) :
  FSpec prog 214 [.one (.sc (.string n)),.one (.sl gM l),.one (.sc (.slice none 0 0))] [] [] (.c (.sl fX (aJ n l))) []/\
  FSpec prog 214 [.one (.sc (.string n)),.one (.sl gM l),.one (.slb 0 1)] [(0,.box 68 (Ev.cells x |>.map .sc))] [] (.c (.sl fX ([x]++aJ n l))) [(0,none)]/\
  FSpec prog 214 [.one (.sc (.string n)),.one (.sl gM l),.one (.own 0)] [(0,.arr 68 fX ev)] [1] (.c (.own 1)) [(1,some (.arr 68 fX (ev++aJ n l))),(0,none)]:=by
 have hlen:∀i,i<=l.length->(aJ n (l.take i)).length=i:=fun i hi=>by simp [aJ,Nat.min_eq_left hi]
 have e1:∀i (h:i<l.length),aJ n (l.take (i+1))=aJ n (l.take i)++[⟨1,l[i].proc,n,l[i].am⟩]:=fun i h=>by
  unfold aJ;rw [List.take_succ_eq_append_getElem h,List.map_append];rfl
 have e0:∀i,¬i<l.length->aJ n (l.take i)=aJ n l:=fun i h=>by rw [List.take_of_length_le (by omega)]
 refine ⟨?_,?_,?_⟩
 ·refine a7 func214 ?_;refine ao ?_;refine cj 2 1000 68 fX rfl rfl rfl ?_;refine ab (fun i=>i<=l.length) (fun i=>bP [1000] [(0,.c (.sc (.string n))),(2,.c (.own 1000)),(9,.c (.sl gM l)),(10,.i l.length),(11,.i i)] [(1000,.arr 68 fX (aJ n (l.take i)))]) (fun i=>l.length-i) 0 (Nat.zero_le _) aT ?_;intro i hi;have h1:=hlen i hi;have h2:=e1 i;have h3:=e0 i;clear hlen e1 e0;by_cases hlt:i<l.length
  ·have h2:=h2 hlt;repeat' (first|refine av ?_ ?_|(refine aa 8 rfl ?_;refine be (ae rfl rfl (aH rfl rfl) (aN [⟨1,l[i].proc,n,l[i].am⟩] rfl rfl rfl rfl) rfl aQ aQ) rfl rfl rfl ?_)|refine aq ?_|exact aw|refine ap fun hb=>?_)
   exact Wa
  ·rw [<-h3 hlt];exact UG
 ·refine a7 func214 ?_;refine ao ?_;refine QX (E:=fX) 2 0 1000 [x] rfl rfl rfl rfl rfl rfl rfl ?_;refine ab (fun i=>i<=l.length) (fun i=>bP [0,1000] [(0,.c (.sc (.string n))),(2,.c (.own 1000)),(9,.c (.sl gM l)),(10,.i l.length),(11,.i i)] [(1000,.arr 68 fX ([x]++aJ n (l.take i)))]) (fun i=>l.length-i) 0 (Nat.zero_le _) aT ?_;intro i hi;have h1:=hlen i hi;have h2:=e1 i;have h3:=e0 i;clear hlen e1 e0;by_cases hlt:i<l.length
  ·have h2:[x]++aJ n (l.take (i+1))=[x]++aJ n (l.take i)++[⟨1,l[i].proc,n,l[i].am⟩]:=by rw [h2 hlt,List.append_assoc]
   repeat' (first|refine av ?_ ?_|(refine aa 8 rfl ?_;refine be (ae rfl rfl (aH rfl rfl) (aN [⟨1,l[i].proc,n,l[i].am⟩] rfl rfl rfl rfl) rfl aQ aQ) rfl rfl rfl ?_)|refine aq ?_|exact aw|refine ap fun hb=>?_)
   exact Wa
  ·rw [<-h3 hlt];exact UG
 ·refine a7 func214 ?_;refine ao ?_;refine ab (fun i=>i<=l.length) (fun i=>bP [0,1000] [(0,.c (.sc (.string n))),(2,.c (.own 1000)),(9,.c (.sl gM l)),(10,.i l.length),(11,.i i)] [(1000,.arr 68 fX (ev++aJ n (l.take i)))]) (fun i=>l.length-i) 0 (Nat.zero_le _) (by rw [List.take_zero,show aJ n []=[] from rfl,List.append_nil];exact bo (qf [(1000,0)])) ?_;intro i hi;have h1:=hlen i hi;have h2:=e1 i;have h3:=e0 i;clear hlen e1 e0;by_cases hlt:i<l.length
  ·have h2:ev++aJ n (l.take (i+1))=ev++aJ n (l.take i)++[⟨1,l[i].proc,n,l[i].am⟩]:=by rw [h2 hlt,List.append_assoc]
   repeat' (first|refine av ?_ ?_|(refine aa 8 rfl ?_;refine be (ae rfl rfl (aH rfl rfl) (aN [⟨1,l[i].proc,n,l[i].am⟩] rfl rfl rfl rfl) rfl aQ aQ) rfl rfl rfl ?_)|refine aq ?_|exact aw|refine ap fun hb=>?_)
   exact Wa
  ·rw [<-h3 hlt];refine ao ?_
   (refine cc (qf [(1,1000)]) ?_;exact af)
theorem Ml (t:List Qu) (p:Pr) (n:ByteArray) {R:List Qu×List Ev×Int} (hR:bv t p n=R):FSpec prog 259 [.one (.sl eh t),p.a,.one (.sc (.string n))] [] [] (JU R) []:=by
 have kA:=QZ t n;refine a7 func259 ?_;cases hV:di t with
 | false =>
  obtain rfl:R=dE 2:=by rw [<-hR];simp [bv,hV]
  rw [hV] at kA;refine ao ?_
  (refine dP (qf []) ?_;exact af)
 | true =>
  have hm:=(bi hV).1;have h8:∀q∈t,fU q:=fun q hq=>df (cP hV hq);by_cases hf:bG n 0 t<0
  case pos =>
   obtain rfl:R=dE 10:=by rw [<-hR];simp [bv,hV,hf]
   rw [hV,qDf (show ¬0<=bG n 0 t by omega),qDt hf] at kA;refine ao ?_
   (refine dP (qf []) ?_;exact af)
  obtain ⟨i,hi,hF,hq,hx⟩:=eC hf;rw [hV,hF,qDt (show (0:Int)<=(i:Int) by omega),qDf (show ¬(i:Int)<0 by omega)] at kA;have hS:=cP hV (List.getElem_mem hi);obtain ⟨Q,hQ⟩:=qGe (bB t[i] p);have hQl:=nc hS p;rw [hQ] at hQl;have kQ:=Ma t[i] p hQ;have kR:=sD t (i:Int) Q.1 (by omega) h8 (.inr ⟨i,hi,rfl,rfl⟩);have kN:=(yK n Q.2.1 [] ⟨0,p,n,⟨0,0⟩⟩ (by omega) (by simp)).1;clear h8;by_cases he:Q.2.2=0
  ·obtain rfl:R=(t.set i Q.1,aJ n Q.2.1,0):=by rw [<-hR];unfold bv;rw [hq,hQ,hx];simp [hV,hf,he]
   repeat' (first|refine av ?_ ?_|(refine aa 9 rfl ?_;first|(refine cB [] kA ?_)|(refine cC [] kQ ?_)|(refine cH (qf [(0,1000)]) kR ?_)|(refine cC [] kN ?_))|refine aq ?_|exact aw|(refine ap fun hb=>?_;first|(exact absurd hb (by decide))|skip)|(refine dP (qf []) ?_;exact af))
  ·obtain rfl:R=dE Q.2.2:=by rw [<-hR];unfold bv;rw [hq,hQ,hx];simp [hV,hf,he]
   refine ao ?_
   (refine dP (qf []) ?_;exact af)
theorem EC {q:Qu} {p:Pr} {a:Am} (h:ah q.holds p=a) (he:(bE q p a).2.2=0):(bE q p a).2.1=[]:=by
 unfold bE at he ⊢;cases ay q <;> cases aR (ah q.holds p) <;> cases (aj q p).isSome <;> cases bq q.res (ah q.holds p) a <;> simp_all [bR,iY]
theorem OK (t:List Qu) (p:Pr) (a:Tm) {R:List Qu×List Ev×Int} (hR:bD t p a=R):FSpec prog 216 [.one (.sl eh t),p.a,a.a] [] [] (JU R) []:=by
 have kA:=QZ t a.name;refine a7 func216 ?_;cases hV:di t with
 | false =>
  obtain rfl:R=dE 2:=by rw [<-hR];simp [bD,hV]
  rw [hV] at kA;refine ao ?_
  (refine dP (qf []) ?_;exact af)
 | true =>
  have hm:=(bi hV).1;have h8:∀q∈t,fU q:=fun q hq=>df (cP hV hq);by_cases hf:bG a.name 0 t<0
  case pos =>
   obtain rfl:R=dE 10:=by rw [<-hR];simp [bD,hV,hf]
   rw [hV,qDf (show ¬0<=bG a.name 0 t by omega),qDt hf] at kA;refine ao ?_
   (refine dP (qf []) ?_;exact af)
  obtain ⟨i,hi,hF,hq,hx⟩:=eC hf;rw [hV,hF,qDt (show (0:Int)<=(i:Int) by omega),qDf (show ¬(i:Int)<0 by omega)] at kA;have hS:=cP hV (List.getElem_mem hi);obtain ⟨Q,hQ⟩:=qGe (bE t[i] p a.am);have hQl:=o0 hS p a.am;have hQs:=EC (q:=t[i]) (p:=p) (a:=a.am);rw [hQ] at hQl hQs;have kQ:=Ou t[i] p a.am hQ;have kR:=sD t (i:Int) Q.1 (by omega) h8 (.inr ⟨i,hi,rfl,rfl⟩);have kN:=(yK a.name Q.2.1 [] ⟨3,p,a.name,a.am⟩ (by omega) (by simp)).2.1;obtain ⟨h,hh⟩:=qGe (ah t[i].holds p);have kH:=fF t[i] p;rw [hh] at kH hQs;clear h8;by_cases he:Q.2.2=0
  ·by_cases hha:h=a.am
   ·have h0:=hQs hha he;obtain rfl:R=(t.set i Q.1,[],0):=by rw [<-hR];unfold bD;rw [hq,hQ,hx];simp [hV,hf,he,hh,hha,h0,aJ]
    repeat' (first|refine av ?_ ?_|(refine aa 9 rfl ?_;first|(refine cB [] kA ?_)|(refine cC [] kQ ?_)|(refine cB [] kH ?_)|(refine cH (qf [(0,1000)]) kR ?_))|refine aq ?_|exact aw|(refine ap fun hb=>?_;first|(exact absurd hb (by decide))|(exact absurd hha.symm hb)|skip)|(refine dP (qf []) ?_;exact af))
   ·obtain rfl:R=(t.set i Q.1,[⟨3,p,a.name,a.am⟩]++aJ a.name Q.2.1,0):=by rw [<-hR];unfold bD;rw [hq,hQ,hx];simp [hV,hf,he,hh,hha]
    repeat' (first|refine av ?_ ?_|(refine aa 9 rfl ?_;first|(refine cB [] kA ?_)|(refine cC [] kQ ?_)|(refine cB [] kH ?_)|(refine cH (qf [(0,1000)]) kR ?_)|(refine cB [] (Mk p a.name a.am) ?_)|(refine cH (qf [(0,64)]) kN ?_))|refine aq ?_|exact aw|(refine ap fun hb=>?_;first|(exact absurd hb (by decide))|(exact absurd hb.symm hha)|skip)|(refine dP (qf []) ?_;exact af))
  ·obtain rfl:R=dE Q.2.2:=by rw [<-hR];unfold bD;rw [hq,hQ,hx];simp [hV,hf,he]
   refine ao ?_
   (refine dP (qf []) ?_;exact af)
theorem OL (t:List Qu) (p:Pr) (a:Tm) (prio:Int) {R:List Qu×List Ev×Int} (hR:bt t p a prio=R):FSpec prog 140 [.one (.sl eh t),p.a,a.a,.one (.sc (.int .i64 prio))] [] [] (JU R) []:=by
 have kA:=QZ t a.name;refine a7 func140 ?_;cases hV:di t with
 | false =>
  obtain rfl:R=dE 2:=by rw [<-hR];simp [bt,hV]
  rw [hV] at kA;refine ao ?_
  (refine dP (qf []) ?_;exact af)
 | true =>
  have hm:=(bi hV).1;have h8:∀q∈t,fU q:=fun q hq=>df (cP hV hq);have hp8:(aO t).length<=8:=by have:=hV;unfold di at this;simp only [qBa,decide_eq_true_eq] at this;exact this.2
  have kP:=Cr t (by omega) h8;by_cases hf:bG a.name 0 t<0
  case pos =>
   obtain rfl:R=dE 10:=by rw [<-hR];simp [bt,hV,hf]
   rw [hV,qDf (show ¬0<=bG a.name 0 t by omega),qDt hf] at kA;refine ao ?_
   (refine dP (qf []) ?_;exact af)
  obtain ⟨i,hi,hF,hq,hx⟩:=eC hf;rw [hV,hF,qDt (show (0:Int)<=(i:Int) by omega),qDf (show ¬(i:Int)<0 by omega)] at kA;by_cases hN:(aO t).length=8/\p ∉ aO t
  case pos =>
   obtain ⟨hN1,hN2⟩:=hN;obtain rfl:R=dE 4:=by rw [<-hR];simp [bt,hV,hf,hN1,hN2]
   clear h8;have:=p8 (aO t) p;refine ao ?_
   (refine dP (qf []) ?_;exact af)
  have hS:=cP hV (List.getElem_mem hi);obtain ⟨Q,hQ⟩:=qGe (bL t[i] p a.am prio);have hQl:=oZ hS p a.am prio;rw [hQ] at hQl;have hN3:(decide ((aO t).length=8) && !decide (p∈aO t))=false:=by
   rw [Bool.and_eq_false_iff];by_cases h:(aO t).length=8
   ·right
    have:p∈aO t:=Classical.byContradiction fun h2=>hN ⟨h,h2⟩;simp [this]
   ·left;simp [h]
  have kQ:=OA t[i] p a.am prio hQ;have kR:=sD t (i:Int) Q.1 (by omega) h8 (.inr ⟨i,hi,rfl,rfl⟩);have kN:=(yK a.name Q.2.1 [] ⟨0,p,a.name,⟨0,0⟩⟩ (by omega) (by simp)).1;clear h8;by_cases he:Q.2.2=0
  ·obtain rfl:R=(t.set i Q.1,aJ a.name Q.2.1,0):=by rw [<-hR];unfold bt;rw [hq,hQ,hx,hN3];simp [hV,hf,he]
   clear hN3;repeat' (first|refine av ?_ ?_|(refine aa 9 rfl ?_;first|(refine cB [] kA ?_)|(refine cC [] kP ?_)|(refine cB [] (p8 (aO t) p) ?_)|(refine cC [] kQ ?_)|(refine cH (qf [(0,1000)]) kR ?_)|(refine cC [] kN ?_))|refine aq ?_|exact aw|(refine ap fun hb=>?_;first|(exact absurd hb (by decide))|(exact (hN ⟨by omega,by assumption⟩).elim)|skip)|(refine dP (qf []) ?_;exact af))
  ·obtain rfl:R=dE Q.2.2:=by rw [<-hR];unfold bt;rw [hq,hQ,hx,hN3];simp [hV,hf,he]
   clear hN3;have:=p8 (aO t) p;repeat' (first|refine av ?_ ?_|refine gV ?_|refine aq ?_|exact aw|(refine ap fun hb=>?_;first|(exact absurd hb (by decide))|(exact (hN ⟨by omega,by assumption⟩).elim)|skip)|(refine dP (qf []) ?_;exact af))
end Go.Proofs.YthpgjkjgkhjjlaaGreatDoor
