/- Part K28 of a proof of statements of chapter 15 (no condition). -/
import Derived.Test.YtkkbopkbjacfmaaGreatDoorK25
set_option linter.unusedVariables false
set_option linter.unusedSimpArgs false
set_option maxRecDepth 100000
set_option maxHeartbeats 64000000
namespace Go.Proofs.YtkkbopkbjacfmaaGreatDoor
open Go.RowKit Go.Proofs.Tryz
theorem gW (n:ByteArray) (l:List Ho):(bo n l).length=l.length:=List.length_map ..
theorem s5 (t:List Qu) (p:Pr) (n:ByteArray):(dq t p n).2.1.length<=17:=by
 unfold dq;cases hV:eV t with
 | false=>simp [fY]
 | true =>
  by_cases hf:bV n 0 t<0
  ·simp [hf,fY]
  ·obtain ⟨i,hi,hF,hq,hx⟩:=gH hf;have:=sU (dc hV (List.getElem_mem hi)) p;rw [hq];cases decide ((bd t[i] p).2.2=0) with
   | false=>simp [hf,fY]
   | true=>simp [hf,gW];exact this
theorem gC (t:List Qu) (p:Pr) (a:Tm):(cO t p a).2.1.length<=18:=by
 unfold cO;cases hV:eV t with
 | false=>simp [fY]
 | true =>
  by_cases hf:bV a.name 0 t<0
  ·simp [hf,fY]
  ·obtain ⟨i,hi,hF,hq,hx⟩:=gH hf;have:=vC (dc hV (List.getElem_mem hi)) p a.am;rw [hq];cases decide ((aY t[i] p a.am).2.2=0) with
   | false=>simp [hf,fY]
   | true =>
    cases decide (af t[i].holds p=a.am) with
    | true=>simp [hf,gW];omega
    | false=>simp [hf,gW];omega
theorem ze {t:List Qu} {n:ByteArray} (h:bh t n=true):∃i,∃hi:i<t.length,bV n 0 t=(i:Int)/\bG t n=t[i]:=by
 have hf:¬bV n 0 t<0:=by simpa [bh] using h
 obtain ⟨i,hi,hF,hq,_⟩:=gH hf;exact ⟨i,hi,hF,hq⟩
theorem Mz (d:Nat) (w:Wk) (x:Pc) (n:ByteArray) (hV:eV w.c.queues=true) (hn:bh w.c.queues n=true) (hl:w.ev.length<=900000):FSpec prog 271 [ls,x.a d,.one (.sc (.string n))] (HI d w) [3,4] (.tup []) (HO d (cg w x n)):=by
 refine aS func271 ?_;obtain ⟨i,hi,hF,hq⟩:=ze hn;obtain ⟨l,hL⟩:=qGe (aw x.led.entries n);have kL:=jk x.led.entries n;rw [hL] at kL;obtain ⟨o,hw⟩:=qGe (ah w.c.queues[i] x.proc);have hcl:=s5 w.c.queues x.proc n;cases o with
 | none =>
  have e1:cg w x n=di w x.proc n l:=by unfold cg iL;rw [hq,hw,hL];rfl
  rw [e1];obtain ⟨h,hh⟩:=qGe (af w.c.queues[i].holds x.proc);have kH:=eT w.c.queues[i] x.proc;rw [hh] at kH;have hll:=gC w.c.queues x.proc ⟨n,l⟩;by_cases hhl:h=l
  ·rw [show di w x.proc n l=w by unfold di;rw [hq,hh];simp [hhl]];have:=du w.c.queues n hF;have:=ce w.c.queues[i] x.proc hw;refine ao ?_
   (exact D7 (qf [(3,1),(4,2)]))
  ·obtain ⟨R,hR⟩:=qGe (cO w.c.queues x.proc ⟨n,l⟩);rw [hR] at hll;rw [show di w x.proc n l=w.take R.1 R.2.1 by unfold di fK;rw [hq,hh,hR];simp [hhl]];repeat' (first|refine az ?_ ?_|(refine aa 9 rfl ?_;first|(refine cB [] (du w.c.queues n hF) ?_)|(refine cB [] (ce w.c.queues[i] x.proc hw) ?_)|(refine cB [] kL ?_)|(refine cB [] kH ?_)|(refine cC [] (tV w.c.queues x.proc ⟨n,l⟩ hR) ?_)|(refine cH (qf [(3,1003),(4,1004)]) (sW d w R.1 R.2.1 (by omega)) ?_))|refine ay ?_|exact aA|refine ax fun hb=>?_|(exact D7 (qf [(3,1003),(4,1004)])))
 | some m =>
  obtain ⟨C,hC⟩:=qGe (dq w.c.queues x.proc n);have hts:=(vD (p:=x.proc) hV hn (by rw [hq,hw];rfl)).2.1;rw [hC] at hts hcl;have hF2:bV n 0 C.1=(i:Int):=by rw [mo n 0 hts.nm];exact hF
  have hi2:i<C.1.length:=by
   have:=congrArg List.length hts.nm;simp [eZ] at this;omega
  have hq2:bG C.1 n=C.1[i]:=by
   obtain ⟨j,hj,hFj,hqj⟩:=ze (t:=C.1) (n:=n) (by simp [bh,hF2]);have:j=i:=by rw [hF2] at hFj;omega
   subst this;exact hqj
  have e1:cg w x n=di (w.take C.1 C.2.1) x.proc n l:=by unfold cg iL mP;rw [hq,hw,hL,hC];rfl
  rw [e1];obtain ⟨h,hh⟩:=qGe (af C.1[i].holds x.proc);have kH:=eT C.1[i] x.proc;rw [hh] at kH;have hll:=gC C.1 x.proc ⟨n,l⟩;have hi3:i<(w.take C.1 C.2.1).c.queues.length:=hi2;have hgq:(w.take C.1 C.2.1).c.queues[i]? = some C.1[i]:=qGg hi2;by_cases hhl:h=l
  ·rw [show di (w.take C.1 C.2.1) x.proc n l=w.take C.1 C.2.1 by unfold di;rw [show (w.take C.1 C.2.1).c.queues=C.1 from rfl,hq2,hh];simp [hhl]];repeat' (first|refine az ?_ ?_|(refine aa 9 rfl ?_;first|(refine cB [] (du w.c.queues n hF) ?_)|(refine cB [] (ce w.c.queues[i] x.proc hw) ?_)|(refine cC [] (AM w.c.queues x.proc n hC) ?_)|(refine cB [] kL ?_)|(refine cB [] kH ?_)|(refine cH (qf [(3,1003),(4,1004)]) (sW d w C.1 C.2.1 (by omega)) ?_))|refine ay ?_|exact aA|refine ax fun hb=>?_|(exact D7 (qf [(3,1003),(4,1004)])))
  ·obtain ⟨R,hR⟩:=qGe (cO C.1 x.proc ⟨n,l⟩);rw [hR] at hll;have hev:(w.take C.1 C.2.1).ev.length+R.2.1.length<=1000000:=by simp [Wk.take];omega
   rw [show di (w.take C.1 C.2.1) x.proc n l=(w.take C.1 C.2.1).take R.1 R.2.1 by unfold di fK;rw [show (w.take C.1 C.2.1).c.queues=C.1 from rfl,hq2,hh,hR];simp [hhl]];repeat' (first|refine az ?_ ?_|(refine aa 9 rfl ?_;first|(refine cB [] (du w.c.queues n hF) ?_)|(refine cB [] (ce w.c.queues[i] x.proc hw) ?_)|(refine cC [] (AM w.c.queues x.proc n hC) ?_)|(refine cB [] kL ?_)|(refine cB [] kH ?_)|(refine cC [] (tV C.1 x.proc ⟨n,l⟩ hR) ?_)|(refine cH (qf [(3,1003),(4,1004)]) (sW d w C.1 C.2.1 (by omega)) ?_)|(refine cH (qf [(1,1003),(2,1004),(3,1005),(4,1006)]) (sW d (w.take C.1 C.2.1) R.1 R.2.1 hev) ?_))|refine ay ?_|exact aA|refine ax fun hb=>?_|(exact D7 (qf [(3,1005),(4,1006)])))
def F7 (x:Pc):List Tm->Wk->Prop
 | [],_=>True
 | a :: l,w=>eV w.c.queues=true/\bh w.c.queues a.name=true/\w.ev.length<=900000/\F7 x l (cg w x a.name)
theorem rl (d:Nat) (w:Wk) (i:Nat) (hi:i<w.c.procs.length) (hok:F7 (w.pc i) (cR (w.pc i).req.expr) w) (hi2:i<(fv (w.pc i) (cR (w.pc i).req.expr) w).c.procs.length):FSpec prog 182 [ls,lD i] (HI d w) [3,4] (.tup []) (HO d (aC w i)):=by
 refine aS func182 ?_;obtain ⟨x,hx⟩:∃x,w.c.procs[i]? = some x:=⟨_,qGg hi⟩;have hpc:=lv hx;unfold aC;rw [hpc] at hok hi2 ⊢;have h8:=dE x.req.expr;obtain ⟨L,hL⟩:=qGe (cR x.req.expr);rw [hL] at hok hi2 h8 ⊢;obtain ⟨W,hW⟩:=qGe (fv x L w);rw [hW] at hi2 ⊢;have:=jO d x.req.expr hL;refine ao ?_;refine ab (fun y:Nat×Wk=>y.1<=L.length/\F7 x (L.drop y.1) y.2/\fv x (L.drop y.1) y.2=W) (fun y=>bC [0,1,2,4,1010,1011] [(0,.v ls),(1,.v (lD i)),(4,.c (.ptr 4 0)),(5,.c (.sl da L)),(6,.i y.1)] [(0,.box 163 (GM y.2 1010 1011)),(4,.box 121 (x.d d)),(1010,.arr 121 (wS d) y.2.c.procs),(1011,.arr 355 sR y.2.ev)]) (fun y=>L.length-y.1) (0,w) ⟨Nat.zero_le _,hok,hW⟩ (by exact a8 (qf [(1010,1),(1011,2)])) ?_;rintro ⟨k,v⟩ ⟨hk,hv,hs⟩;dsimp only at *
 by_cases hlt:k<L.length
 ·rw [qDc hlt] at hv hs;obtain ⟨v1,v2,v3,v4⟩:=hv;repeat' (first|refine az ?_ ?_|refine aa 9 rfl (cH (qf [(1,1010),(2,1011),(3,1003),(4,1004)]) (Mz d v x L[k].name v1 v2 v3) ?_)|refine ay ?_|exact aA|refine ax fun hb=>?_)
  refine ⟨(k+1,cg v x L[k].name),⟨by dsimp only;omega,v4,hs⟩,by dsimp only;omega,?_⟩;exact a8 (qf [(1010,1003),(1011,1004)])
 ·obtain rfl:v=W:=by rw [<-hs,qDn (by omega)];rfl
  repeat' (first|refine az ?_ ?_|refine aa 9 rfl (cH (qf [(1,1010),(2,1011),(3,1005),(4,1006)]) (Mt d v i hi2) ?_)|refine ay ?_|exact aA|refine ax fun hb=>?_|(exact D7 (qf [(3,1005),(4,1006)])))
theorem nj (t:List Qu) (p:Pr) (hl:t.length<=100000):FSpec prog 36 [.one (.sl ic t),p.a] [] [] (.c (.sl da (cI t p))) []:=by
 refine aS func36 ?_;refine ao ?_;refine bK 5 1000 63 da rfl rfl rfl ?_;refine ab (fun x:Nat×List Tm=>x.1<=t.length/\x.2.length<=x.1/\x.2++cI (t.drop x.1) p=cI t p) (fun x=>bC [3,1000] [(0,.c (.sl ic t)),(3,.c (.ptr 3 0)),(5,.c (.own 1000)),(6,.i x.1)] [(3,.box 42 [.sc (.int .i64 p.site),.sc (.int .i64 p.inc),.sc (.int .i64 p.num)]),(1000,.arr 63 da x.2)]) (fun x=>t.length-x.1) (0,[]) ⟨Nat.zero_le _,Nat.le_refl _,rfl⟩ aL ?_;rintro ⟨i,acc⟩ ⟨hi,hal,hs⟩;dsimp only at *
 by_cases hlt:i<t.length
 ·have e:cI (t.drop i) p=(bif aJ (af t[i].holds p) then [] else [⟨t[i].res.name,af t[i].holds p⟩])++cI (t.drop (i+1)) p:=by
   rw [qDc hlt];unfold cI;rw [List.map_cons,List.filter_cons];cases aJ (af t[i].holds p) <;> rfl
  rw [e] at hs;repeat' (first|refine az ?_ ?_|(refine aa 8 rfl ?_;refine aK (ae rfl rfl (av rfl rfl) (aB [⟨t[i].res.name,af t[i].holds p⟩] rfl rfl rfl rfl) rfl aE aE) rfl rfl rfl ?_)|(refine aa 9 rfl ?_;first|(refine cB [] (eT t[i] p) ?_)|(refine cB [] (eH (af t[i].holds p)) ?_))|refine ay ?_|exact aA|refine ax fun hb=>?_)
  ·refine ⟨(i+1,acc++[⟨t[i].res.name,af t[i].holds p⟩]),⟨by dsimp only;omega,by simp;omega,?_⟩,by dsimp only;omega,?_⟩
   ·rw [hb] at hs;rw [<-hs];simp
   ·exact a8 (qf [(1000,33)])
  ·refine ⟨(i+1,acc),⟨by dsimp only;omega,by dsimp only;omega,?_⟩,by dsimp only;omega,?_⟩
   ·rw [hb] at hs;rw [<-hs];simp
   ·exact aL
 ·have e:acc=cI t p:=by rw [<-hs,qDn (by omega)];simp [cI]
  refine ao ?_;rw [<-e];exact Rd
theorem LB (t:List Qu) (p:Pr) (hl:t.length<=100000):FSpec prog 234 [.one (.sl ic t),p.a] [] [] (.c (.sl da (cY p t))) []:=by
 refine aS func234 ?_;refine ao ?_;refine bK 5 1000 63 da rfl rfl rfl ?_;refine ab (fun x:Nat×List Tm=>x.1<=t.length/\x.2.length<=x.1/\x.2++cY p (t.drop x.1)=cY p t) (fun x=>bC [3,1000] [(0,.c (.sl ic t)),(3,.c (.ptr 3 0)),(5,.c (.own 1000)),(6,.i x.1)] [(3,.box 42 [.sc (.int .i64 p.site),.sc (.int .i64 p.inc),.sc (.int .i64 p.num)]),(1000,.arr 63 da x.2)]) (fun x=>t.length-x.1) (0,[]) ⟨Nat.zero_le _,Nat.le_refl _,rfl⟩ aL ?_;rintro ⟨i,acc⟩ ⟨hi,hal,hs⟩;dsimp only at *
 by_cases hlt:i<t.length
 ·rw [qDc hlt] at hs;cases hw:ah t[i] p with
  | some a =>
   rw [show cY p (t[i] :: t.drop (i+1))=⟨t[i].res.name,a⟩ :: cY p (t.drop (i+1)) by simp [cY,hw]] at hs;repeat' (first|refine az ?_ ?_|(refine aa 8 rfl ?_;refine aK (ae rfl rfl (av rfl rfl) (aB [⟨t[i].res.name,a⟩] rfl rfl rfl rfl) rfl aE aE) rfl rfl rfl ?_)|refine aa 9 rfl (cB [] (ce t[i] p hw) ?_)|refine ay ?_|exact aA|refine ax fun hb=>?_)
   refine ⟨(i+1,acc++[⟨t[i].res.name,a⟩]),⟨by dsimp only;omega,by simp;omega,?_⟩,by dsimp only;omega,?_⟩
   ·rw [<-hs];simp
   ·exact a8 (qf [(1000,35)])
  | none =>
   rw [show cY p (t[i] :: t.drop (i+1))=cY p (t.drop (i+1)) by simp [cY,hw]] at hs;have:=ce t[i] p hw;refine ao ?_;refine ⟨(i+1,acc),⟨by dsimp only;omega,by dsimp only;omega,?_⟩,by dsimp only;omega,?_⟩
   ·rw [<-hs]
   ·exact aL
 ·have e:acc=cY p t:=by rw [<-hs,qDn (by omega)];simp [cY]
  refine ao ?_;rw [<-e];exact Rd
def zy (p:Pr):Nat->List Pr->Int
 | _,[]=>-1
 | k,x :: l=>bif decide (p=x) then (k:Int) else zy p (k+1) l
theorem yh (p x:Pr) (k:Nat) (l:List Pr):zy p k (x :: l)=bif decide (p=x) then (k:Int) else zy p (k+1) l:=rfl
theorem BU (p:Pr):∀(l:List Pr) (k:Nat),0<=zy p k l↔p∈l
 | [],_=>by simp [zy]
 | x :: l,k=>by
  rw [yh];by_cases h:p=x
  ·rw [qDt h];simp [h] <;> omega
  ·rw [qDf h,qCf,BU p l (k+1)];simp [h]
theorem On (l:List Pr) (p:Pr):FSpec prog 118 [.one (.sl eh l),p.a] [] [] (.i (zy p 0 l)) []:=by
 obtain ⟨v,hv⟩:=qGe (zy p 0 l);rw [hv];refine aS func118 ?_;refine aP (fun c ρ a w hr=>ck (t:=0) hr rfl) (fun hl0=>?_);refine ao ?_;refine ab (fun i=>i<=l.length/\zy p i (l.drop i)=v) (fun i=>bC [3] [(0,.c (.sl eh l)),(3,.c (.ptr 3 0)),(7,.i l.length),(8,.i i)] [Eb 3 p]) (fun i=>l.length-i) 0 ⟨Nat.zero_le _,hv⟩ aL ?_;rintro i ⟨hi,hs⟩;by_cases hlt:i<l.length
 ·rw [qDc hlt,yh] at hs;repeat' (first|refine az ?_ ?_|refine ay ?_|exact aA|refine ax fun hb=>?_)
  ·exact Rx
  ·refine ⟨i+1,⟨by omega,?_⟩,by omega,?_⟩
   ·rw [<-hs];simp [*]
   ·exact aL
 ·exact Ra
theorem L1 (l:List Pr) (p:Pr):FSpec prog 155 [.one (.sl eh l),p.a] [] [] (.b (decide (p∈l))) []:=by
 have h:=BU p l 0;have kI:=On l p;obtain ⟨n,hn⟩:=qGe (zy p 0 l);rw [hn] at h kI;refine aS func155 ?_;refine ao ?_;refine eR ?_;simp [h]
theorem JW (l:List Pr) (p:Pr):FSpec prog 72 [.one (.sl eh l),p.a] [] [] (.b (decide (p∈l))) []:=by
 refine aS func72 ?_;have:=L1 l p;refine ao ?_
 (refine eR ?_;rfl)
end Go.Proofs.YtkkbopkbjacfmaaGreatDoor
