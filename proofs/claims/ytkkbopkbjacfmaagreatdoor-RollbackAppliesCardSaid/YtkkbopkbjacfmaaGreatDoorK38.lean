/- Part K38 of a proof of statements of chapter 15 (no condition). -/
import Derived.Test.YtkkbopkbjacfmaaGreatDoorK34
import Derived.Test.YtkkbopkbjacfmaaGreatDoorK36
import Derived.Test.YtkkbopkbjacfmaaGreatDoorK33
import Derived.Test.YtkkbopkbjacfmaaGreatDoorK35
set_option linter.unusedVariables false
set_option linter.unusedSimpArgs false
set_option maxRecDepth 100000
set_option maxHeartbeats 64000000
namespace Go.Proofs.YtkkbopkbjacfmaaGreatDoor
open Go.RowKit Go.Proofs.Tryz
theorem zh (w:Wk) (i:Nat):(aC w i).c.procs.length=w.c.procs.length:=by unfold aC fh;rw [gX,dF]
def MC (w:Wk):Wk:=bi (aC (w.note 4 (w.pc (d9 w).toNat).proc) (d9 w).toNat) (d9 w).toNat
def TkOk:Nat->Wk->Prop
 | 0,w=>w.c.procs.length<=100000/\Pg w.c.procs/\d9 w<0
 | n+1,w=>w.c.procs.length<=100000/\Pg w.c.procs/\(0<=d9 w->w.ev.length<=900000/\(d9 w).toNat<w.c.procs.length/\
   F7 (w.pc (d9 w).toNat) (cR (w.pc (d9 w).toNat).req.expr) (w.note 4 (w.pc (d9 w).toNat).proc)/\StOk (MC w).c.procs.length (MC w)/\TkOk n (be (MC w).c.procs.length (MC w)))
theorem TkOk.len {n:Nat} {v:Wk} (h:TkOk n v):v.c.procs.length<=100000/\Pg v.c.procs:=by cases n <;> exact ⟨h.1,h.2.1⟩
theorem vV (n:Nat) (w:Wk):gR (n+1) w=bif decide (d9 w<0) then w else gR n (be (MC w).c.procs.length (MC w)):=rfl
def OB (w:Wk) (n:Int):Wk:=⟨{ w.c with now:=w.c.now+n },w.ev⟩
theorem Lx (w:Wk) (n:Int):jL w n=bif !(decide (0<=n) && decide (n<=1000)) then (w,1) else bif decide (1073741824-n<w.c.now) then (w,16) else (gR w.c.procs.length (OB w n),0):=rfl
theorem Pi (d:Nat) (w:Wk) (n:Int) (h0 : -1000000000000<=w.c.now) (hok:0<=n->n<=1000->w.c.now<=1073741824-n->TkOk w.c.procs.length (OB w n)) {Z:Wk×Int} (hZ:jL w n=Z):FSpec prog 180 [ls,lD n] (HI d w) [3,4] (.i Z.2) (HO d Z.1):=by
 refine aS func180 ?_;rw [Lx] at hZ;by_cases h1:0<=n/\n<=1000
 case neg =>
  obtain rfl:Z=(w,1):=by
   rw [<-hZ,show (decide (0<=n) && decide (n<=1000))=false by rw [Bool.and_eq_false_iff];simp;omega];rfl
  repeat' (first|refine az ?_ ?_|refine ay ?_|exact aA|refine ax fun hb=>?_|(refine cn (qf [(3,1),(4,2)]) ?_;exact ak))
 obtain ⟨h1,h2⟩:=h1;rw [qDt h1,qDt h2] at hZ;by_cases h3:1073741824-n<w.c.now
 ·obtain rfl:Z=(w,16):=by rw [<-hZ,qDt h3];rfl
  refine ao ?_
  (refine cn (qf [(3,1),(4,2)]) ?_;exact ak)
 ·obtain ⟨V,hV⟩:=qGe (OB w n);have hk:=hok h1 h2 (by omega);obtain ⟨W,hW⟩:=qGe (gR w.c.procs.length (OB w n));obtain rfl:Z=(W,0):=by rw [<-hZ,qDf h3,hW];rfl
  obtain ⟨k1,k2⟩:=hk.len;repeat' (first|refine az ?_ ?_|refine aa 9 rfl (cH (qf [(1,1),(2,2),(3,1003),(4,1004)]) (A7 d (OB w n) k1 k2) ?_)|refine ay ?_|exact aA|refine ax fun hb=>?_)
  refine ab (fun y:Nat×Wk=>TkOk y.1 y.2/\gR y.1 y.2=W) (fun y=>bC [0,1,2,1010,1011] [(0,.v ls),(5,.i (d9 y.2))] [(0,.box 163 (GM y.2 1010 1011)),(1010,.arr 121 (wS d) y.2.c.procs),(1011,.arr 355 sR y.2.ev)]) (fun y=>y.1) (w.c.procs.length,OB w n) ⟨hk,hW⟩ (by exact a8 (qf [(1010,1003),(1011,1004)])) ?_;clear hk hW hok hV k1 k2 hZ;rintro ⟨m,v⟩ ⟨hv,hs⟩;dsimp only at *
  obtain ⟨e,he⟩:=qGe (d9 v);by_cases hneg:e<0
  ·obtain rfl:v=W:=by
    rw [<-hs];cases m with
    | zero=>rfl
    | succ m=>rw [vV,he,qDt hneg];rfl
   rw [he];refine ao ?_
   (refine cn (qf [(3,1010),(4,1011)]) ?_;exact ak)
  ·cases m with
   | zero=>exact absurd (he▸hv.2.2) hneg
   | succ m =>
    obtain ⟨_,_,hall⟩:=hv;rw [vV,he,qDf hneg,qCf] at hs;unfold MC at hall hs;rw [he] at hall hs ⊢;obtain ⟨u1,u2,u3,u4,u5⟩:=hall (by omega);obtain ⟨i,hi⟩:∃i:Nat,e=(i:Int):=⟨e.toNat,by omega⟩;subst hi;simp only [Int.toNat_natCast] at u2 u3 u4 u5 hs;obtain ⟨x,hx⟩:∃x,v.c.procs[i]? = some x:=⟨_,qGg u2⟩;have hpc:=lv hx;rw [hpc] at u3 u4 u5 hs;obtain ⟨N0,hN⟩:=qGe (v.note 4 x.proc);have kN:=Iy d v 4 x.proc (by omega);have hNp:N0.c.procs=v.c.procs:=by rw [<-hN];rfl
    rw [hN] at u3 u4 u5 hs kN;have hNc:N0.pc i=x:=by unfold Wk.pc;rw [hNp];exact hpc
    have kW:=rl d N0 i (by rw [hNp];exact u2) (by rw [hNc];exact u3) (by rw [dF,hNp];exact u2);have kX:=ov d (aC N0 i) i (by rw [zh,hNp];exact u2);obtain ⟨y,hy⟩:=qGe (bi (aC N0 i) i);rw [hy] at u4 u5 hs kX;have kS:=nh d y _ u4;obtain ⟨F,hF⟩:=qGe (be y.c.procs.length y);rw [hF] at kS u5 hs;obtain ⟨f1,f2⟩:=u5.len;clear hy hF u4 u3 hNc hall hN hNp;repeat' (first|refine az ?_ ?_|(refine aa 9 rfl ?_;first|(refine cH (qf [(1,1010),(2,1011),(3,1020),(4,1021)]) kN ?_)|(refine cH (qf [(1,1020),(2,1021),(3,1030),(4,1031)]) kW ?_)|(refine cH (qf [(1,1030),(2,1031),(3,1040),(4,1041)]) kX ?_)|(refine cH (qf [(1,1040),(2,1041),(3,1050),(4,1051)]) kS ?_)|(refine cH (qf [(1,1050),(2,1051),(3,1060),(4,1061)]) (A7 d F f1 f2) ?_))|refine ay ?_|exact aA|refine ax fun hb=>?_)
    refine ⟨(m,F),⟨u5,hs⟩,by dsimp only;omega,?_⟩;exact a8 (qf [(1010,1060),(1011,1061)])
theorem pI (w:Wk) (t:List Qu) (ev:List Ev):(w.take t ev).ev.length=w.ev.length+ev.length:=List.length_append
theorem I1 (w:Wk) (p:Pr) (n:ByteArray):(iL w p n).ev.length<=w.ev.length+17:=by
 unfold iL mP;cases (ah (bG w.c.queues n) p).isSome with
 | false=>simp
 | true=>rw [qCt,pI];have:=s5 w.c.queues p n;omega
theorem vX (w:Wk) (p:Pr) (n:ByteArray) (l:Am):(di w p n l).ev.length<=w.ev.length+18:=by
 unfold di fK;cases decide (af (bG w.c.queues n).holds p=l) with
 | true=>simp
 | false=>rw [qCf,pI];have:=gC w.c.queues p ⟨n,l⟩;omega
theorem pJ (w:Wk) (x:Pc) (n:ByteArray):(cg w x n).ev.length<=w.ev.length+35:=by
 unfold cg;have h1:=I1 w x.proc n;have h2:=vX (iL w x.proc n) x.proc n (aw x.led.entries n);omega
theorem xW (x:Pc):∀(l:List Tm) (w:Wk),(fv x l w).ev.length<=w.ev.length+35*l.length
 | [],w=>by simp [fv]
 | a :: l,w=>by
  have h1:=pJ w x a.name;have h2:=xW x l (cg w x a.name);show (fv x l (cg w x a.name)).ev.length<=_;rw [List.length_cons];omega
theorem EA (w:Wk) (i:Nat) (p:Pr) (n:ByteArray):(jh w i p n).ev=w.ev:=by
 unfold jh;cases decide (af (bG w.c.queues n).holds p=aw (w.pc i).led.entries n) <;> rfl
theorem I2 (w:Wk) (i:Nat) (p:Pr) (n:ByteArray):(jh w i p n).c.procs.length=w.c.procs.length:=by
 unfold jh;cases decide (af (bG w.c.queues n).holds p=aw (w.pc i).led.entries n)
 ·exact gX _ _ _
 ·rfl
theorem vY (x:Pc) (i:Nat):∀(l:List Tm) (bs:List Bool) (w:Wk),(dB x i l bs w).ev.length<=w.ev.length+35*l.length/\(dB x i l bs w).c.procs.length=w.c.procs.length
 | [],bs,w=>by cases bs <;> exact ⟨by simp [dB],rfl⟩
 | a :: l,[],w=>⟨by simp [dB],rfl⟩
 | a :: l,b :: bs,w=>by
  have h2:=vY x i l bs (bif b then jh w i x.proc a.name else cg w x a.name);have h3:(bif b then jh w i x.proc a.name else cg w x a.name).ev.length<=w.ev.length+35/\(bif b then jh w i x.proc a.name else cg w x a.name).c.procs.length=w.c.procs.length:=by
   cases b with
   | true=>exact ⟨by rw [qCt,EA];omega,I2 _ _ _ _⟩
   | false=>exact ⟨pJ w x a.name,congrArg List.length (s6 w x a.name)⟩
  show (dB x i l bs (bif b then jh w i x.proc a.name else cg w x a.name)).ev.length<=_/\(dB x i l bs (bif b then jh w i x.proc a.name else cg w x a.name)).c.procs.length=_;rw [List.length_cons];omega
theorem pK (w:Wk) (k:Int) (p:Pr):(w.note k p).ev.length=w.ev.length+1:=by unfold Wk.note;simp
theorem EB (w:Wk) (i:Nat):(lC w i).ev.length<=w.ev.length+281:=by
 have h1:=(vY (w.pc i) i (cR (w.pc i).req.expr) (dj (w.pc i).req.expr (bN w.c.queues (w.pc i).proc (w.pc i).req.expr)) (w.note 2 (w.pc i).proc)).1;rw [pK] at h1;have h2:=dE (w.pc i).req.expr;show (dB (w.pc i) i (cR (w.pc i).req.expr) (dj (w.pc i).req.expr (bN w.c.queues (w.pc i).proc (w.pc i).req.expr)) (w.note 2 (w.pc i).proc)).ev.length<=_;omega
theorem vZ:∀(n:Nat) (w:Wk),(be n w).ev.length<=w.ev.length+281*n
 | 0,w=>by simp [be]
 | n+1,w=>by
  unfold be;cases fG w.c.queues 0 w.c.procs with
  | none=>dsimp only;omega
  | some i =>
   have h1:=EB w i;have h2:=vZ n (lC w i);dsimp only;omega
theorem lg (w:Wk) (i:Nat):(aC w i).ev.length<=w.ev.length+280:=by
 have h1:=xW (w.pc i) (cR (w.pc i).req.expr) w;have h2:=dE (w.pc i).req.expr;show (fv (w.pc i) (cR (w.pc i).req.expr) w).ev.length<=_;omega
theorem wd (p:Pr) (prio:Int):∀(l:List Tm) (w:Wk),(dC p prio l w).ev.length<=w.ev.length+18*l.length
 | [],w=>by simp [dC]
 | a :: l,w=>by
  have h1:=oA w.c.queues p a prio;have h2:=wd p prio l (w.take (b9 w.c.queues p a prio).1 (b9 w.c.queues p a prio).2.1);rw [pI] at h2;show (dC p prio l (w.take (b9 w.c.queues p a prio).1 (b9 w.c.queues p a prio).2.1)).ev.length<=_;rw [List.length_cons];omega
theorem we (p:Pr):∀(l:List Tm) (w:Wk),(cz p l w).ev.length<=w.ev.length+18*l.length
 | [],w=>by simp [cz]
 | a :: l,w=>by
  have h1:=vX w p a.name a.am;have h2:=we p l (di w p a.name a.am);show (cz p l (di w p a.name a.am)).ev.length<=_;rw [List.length_cons];omega
theorem DrT.ok {x:Pc}:∀{l:List Tm} {w:Wk},DrT x l w->w.ev.length+35*l.length<=900000->F7 x l w
 | [],_,_,_=>trivial
 | a :: l,w,h,he=>by
  rw [List.length_cons] at he;have h1:=pJ w x a.name;exact ⟨h.1,h.2.1,by omega,h.2.2.ok (by omega)⟩
theorem FinT.ok {x:Pc} {i:Nat}:∀{l:List Tm} {bs:List Bool} {w:Wk},FinT x i l bs w->w.ev.length+35*l.length<=900000->Ew x i l bs w
 | [],bs,_,_,_=>by cases bs <;> trivial
 | a :: l,[],_,_,_=>trivial
 | a :: l,b :: bs,w,h,he=>by
  rw [List.length_cons] at he;have h3:(bif b then jh w i x.proc a.name else cg w x a.name).ev.length<=w.ev.length+35:=by
   cases b with
   | true=>rw [qCt,EA];omega
   | false=>exact pJ w x a.name
  exact ⟨h.1,h.2.1,by omega,h.2.2.1,h.2.2.2.ok (by omega)⟩
theorem LwT.ok {p:Pr}:∀{l:List Tm} {w:Wk},LwT p l w->w.ev.length+18*l.length<=900000->IU p l w
 | [],_,_,_=>trivial
 | a :: l,w,h,he=>by
  rw [List.length_cons] at he;have h1:=vX w p a.name a.am;exact ⟨h.1,by omega,h.2.ok (by omega)⟩
theorem Pt {p:Pr} {prio:Int}:∀{l:List Tm} {w:Wk},w.ev.length+18*l.length<=900000->Ly p prio l w
 | [],_,_=>trivial
 | a :: l,w,he=>by
  rw [List.length_cons] at he;have h1:=oA w.c.queues p a prio;exact ⟨by omega,Pt (by rw [pI];omega)⟩
theorem Pu:∀(n:Nat) (w:Wk),CI w.c->cy w.c.procs<=n->w.ev.length+281*n<=800000->StOk n w
 | 0,w,h,hn,_=>by
  refine ⟨by have:=h.len;omega,?_⟩;cases hs:fG w.c.queues 0 w.c.procs with
  | none=>rfl
  | some i =>
   obtain ⟨j,hj,_,h2⟩:=lc hs;unfold eP at h2;rw [qBa] at h2;have:=mY hj h2.1;omega
 | n+1,w,h,hn,he=>by
  refine ⟨by have:=h.len;omega,by omega,fun i hs=>?_⟩;obtain ⟨j,hj,e,h2⟩:=lc hs;have e':i=j:=by omega
  subst e';have hwt:(w.pc i).waiting=true:=by
   rw [bZ hj];unfold eP at h2;rw [qBa] at h2;exact h2.1
  obtain ⟨k1,k2,_,_,_,_,_,_,k9⟩:=IC h hj hwt;have h8:=dE (w.pc i).req.expr;have hfe:=EB w i;refine ⟨hj,?_,k9.ok (by rw [pK];omega),Pu n (lC w i) k1 (by omega) (by omega)⟩;show i<(dB (w.pc i) i (cR (w.pc i).req.expr) (dj (w.pc i).req.expr (bN w.c.queues (w.pc i).proc (w.pc i).req.expr)) (w.note 2 (w.pc i).proc)).c.procs.length;rw [(vY _ _ _ _ _).2];exact hj
theorem xX {w:Wk} (h:CI w.c) (he:w.ev.length<=700000):StOk w.c.procs.length w:=Pu _ _ h (pB _) (by have:=h.len;omega)
theorem Ga {w:Wk} (h:CI w.c):(be w.c.procs.length w).ev.length<=w.ev.length+2248:=by
 have:=vZ w.c.procs.length w;have:=h.len;omega
theorem QQ {c:Cs} (h:CI c):Pg c.procs:=fun x hx=>by
 have hi:=h.inv x hx;have hn:=h.now;cases hw:x.waiting with
 | false =>
  obtain ⟨h1,h2,_⟩:=hi.run hw;rw [h1,h2];simp [Rq.zero]
 | true =>
  obtain ⟨h1,_⟩:=hi.wat hw;have h2:=h1.rq;have h3:=h1.sn;unfold qW at h2;simp only [qBa,decide_eq_true_eq] at h2;omega
theorem Pv {w:Wk} {i:Nat} {n:ByteArray} (h:CI w.c) (hi:i<w.c.procs.length) (he:w.ev.length<=600000):MA w i n:=by
 refine ⟨hi,by omega,fun hw h0=>xX (sY h hi hw h0).1 ?_⟩;have:=gC w.c.queues (w.pc i).proc ⟨n,⟨0,0⟩⟩;show (w.take (cO w.c.queues (w.pc i).proc ⟨n,⟨0,0⟩⟩).1 (cO w.c.queues (w.pc i).proc ⟨n,⟨0,0⟩⟩).2.1).ev.length<=_;rw [pI];omega
theorem Gb {g:Lg} (h:Ld g) (n:Int):(cd g n).2.1.length<=1000:=by
 unfold cd;rw [fZ.2 h,Bool.not_true,qCf];cases (!decide (n=0) && decide (aO n 0 g.saves<0)) with
 | true=>simp
 | false =>
  rw [qCf];dsimp only;rw [List.length_map];have:=qU (ku (gv (g.entries.drop (bw g n).entries.length))) (m:=bt g.entries) fun x hx=>by
   obtain ⟨e,he,hn⟩:=cP.1 hx;exact cP.2 ⟨e,List.mem_of_mem_drop he,hn⟩
  have:=h.nms;omega
theorem pL (p:Pr):∀t:List Qu,(∀q∈t,ai q=true)->(aU p t).2.length<=18*t.length
 | [],_=>by simp [aU]
 | q :: l,h=>by
  have ih:=pL p l fun x hx=>h x (by simp [hx]);have h1:=sV (h q (by simp)) p;have e:aU p (q :: l)=bif !dY q p then (q :: (aU p l).1,(aU p l).2) else
   ((br q p).1 :: (aU p l).1,(bif aJ (af q.holds p) then [] else [⟨3,p,q.res.name,⟨0,0⟩⟩])++bo (br q p).1.res.name (br q p).2.1++(aU p l).2):=rfl
  rw [e,List.length_cons];cases (!dY q p) with
  | true=>rw [qCt];dsimp only;omega
  | false =>
   rw [qCf];cases aJ (af q.holds p) <;> simp [gW] <;> omega
theorem Bb (t:List Qu) (p:Pr):(bM t p).2.length<=144:=by
 unfold bM;cases hv:eV t with
 | false=>simp
 | true =>
  have:=pL p t fun q hq=>dc hv hq;have:=(cm hv).1;rw [Bool.not_true,qCf];omega
theorem Pw {w:Wk} {i:Nat} {n:Int} (h:CI w.c) (hi:i<w.c.procs.length) (he:w.ev.length<=600000):MB w i n:=by
 refine ⟨hi,fun hu=>?_⟩;obtain ⟨h1,h2,_⟩:=pC h hi hu;have h8:=dE (w.pc i).req.expr;have hA:(rd w i).ev.length<=w.ev.length+280:=by
  unfold rd;cases (w.pc i).waiting with
  | false=>rw [qCf];omega
  | true=>exact lg w i
 have hB:(AT w i n).ev.length<=w.ev.length+280:=hA;have hinv:=h.inv _ (List.getElem_mem hi);rw [<-bZ hi] at hinv;have hl:=Gb hinv.stat.led n;have hS:(re w i n).ev.length<=w.ev.length+280+18*(cd (w.pc i).led n).2.1.length:=by
  have:=we (w.pc i).proc (cd (w.pc i).led n).2.1 (AT w i n);show (cz (w.pc i).proc (cd (w.pc i).led n).2.1 (AT w i n)).ev.length<=_;omega
 exact ⟨fun hw=>(ow h hi hw).ok (by omega),h1.ok (by omega),xX h2 (by omega)⟩
theorem Qi {w:Wk} {i:Nat} {r:Rq} (h:CI w.c) (hi:i<w.c.procs.length) (he:w.ev.length<=600000):Pn w i r:=by
 have h8:=dE r.expr;refine ⟨hi,h.tv,by have:=(cm h.tv).1;omega,fun hw hq hr=>⟨Pt ?_,xX (sX h hi hw hq hr).1 ?_⟩⟩
 ·show w.ev.length+_<=_;omega
 ·have:=wd (w.pc i).proc r.prio (cR r.expr) (NJ w i r);have e:(NJ w i r).ev=w.ev:=rfl;rw [e] at this;show (dC (w.pc i).proc r.prio (cR r.expr) (NJ w i r)).ev.length<=_;omega
theorem Qj {w:Wk} {i:Nat} (h:CI w.c) (hi:i<w.c.procs.length) (he:w.ev.length<=600000):Po w i:=by
 have hr:(bM w.c.queues (w.pc i).proc).2.length<=1000:=by have:=Bb w.c.queues (w.pc i).proc;omega
 refine ⟨hi,by have:=h.len;omega,by omega,hr,xX (AU h hi) ?_⟩;unfold Mv;rw [pK];simp only [List.length_append];omega
theorem Px:∀(n:Nat) (w:Wk),CI w.c->(∀x∈w.c.procs,eP w.c.queues x=false)->cy w.c.procs<=n->w.ev.length+3000*n<=600000->TkOk n w
 | 0,w,h,hs,hn,he=>by
  refine ⟨by have:=h.len;omega,QQ h,?_⟩;by_cases h0:d9 w<0
  ·exact h0
  ·exfalso;obtain ⟨hi,hl,_⟩:=(nc w).2 (by omega);have:=mY hi hl;omega
 | n+1,w,h,hs,hn,he=>by
  refine ⟨by have:=h.len;omega,QQ h,fun h0=>?_⟩;obtain ⟨hi,hl1,hl2,hl3⟩:=(nc w).2 h0;have hts:MC w=bi (aC (w.note 4 (w.pc (d9 w).toNat).proc) (d9 w).toNat) (d9 w).toNat:=rfl;rw [hts];clear hts;generalize (d9 w).toNat=i at *
  have hc0:CI (w.note 4 (w.pc i).proc).c:=h;have hp0:(w.note 4 (w.pc i).proc).pc i=w.pc i:=rfl;have hw0:((w.note 4 (w.pc i).proc).pc i).waiting=true:=by rw [hp0,bZ hi];exact hl1
  obtain ⟨k1,k2,k3,k4,_⟩:=eU hc0 hi hw0;have hdt:=ow hc0 hi hw0;have hev:=lg (w.note 4 (w.pc i).proc) i;rw [pK] at hev;have hi2:i<(aC (w.note 4 (w.pc i).proc) i).c.procs.length:=by rw [k3.len];exact hi
  have hrun:((aC (w.note 4 (w.pc i).proc) i).pc i).waiting=false:=by rw [bZ hi2];simp [k4]
  obtain ⟨n1,n2,n3⟩:=jc k1 hi2 hrun;obtain ⟨q1,q2,q3,q4,q5,q6,_⟩:=jQ n1;have k2':cy (aC (w.note 4 (w.pc i).proc) i).c.procs+1=cy w.c.procs:=k2;have he2:(bi (aC (w.note 4 (w.pc i).proc) i) i).ev.length<=w.ev.length+281:=by
   show (aC (w.note 4 (w.pc i).proc) i).ev.length<=_;omega
  have he3:=Ga n1;have h8:=dE (w.pc i).req.expr;refine ⟨by omega,hi,?_,xX n1 (by omega),Px n _ q1 q2 ?_ ?_⟩
  ·rw [<-hp0];exact hdt.ok (by rw [pK,hp0];omega)
  ·show cy (bQ (bi (aC (w.note 4 (w.pc i).proc) i) i)).c.procs<=n;omega
  ·show (be _ (bi (aC (w.note 4 (w.pc i).proc) i) i)).ev.length+_<=_;omega
theorem Qk {c:Cs} (h:CI c) (p:Pr):Pq p c.procs:=fun i j hi hj hij hk=>by
 by_cases e:i=j
 ·subst e;exact hk
 ·have ha:=List.pairwise_iff_getElem.1 h.asc i j (by simpa using hi) (by simpa using hj) (by omega);simp only [List.getElem_map] at ha;rcases dg c.procs[i].proc p with ⟨_,k1⟩|⟨_,k1⟩|⟨k0,_⟩
  ·omega
  ·omega
  ·rcases dg c.procs[j].proc p with ⟨k2,_⟩|⟨k2,_⟩|⟨_,k3⟩
   ·exact absurd (cq (cq k0 ha) k2) (bz _)
   ·exact absurd (k2▸cq k0 ha) (bz _)
   ·omega
def Cm.d (d:Nat) (k:Cm):List D:=[.sc (.int .i64 k.kind),.sc (.int .i64 k.proc.site),.sc (.int .i64 k.proc.inc),.sc (.int .i64 k.proc.num),.sc (.int .i64 k.req.expr.k),.sc (.string k.req.expr.atom.name),.sc (.int .i64 k.req.expr.atom.am.mode),.sc (.int .i64 k.req.expr.atom.am.units),.sl (qF d) k.req.expr.kids,.sc (.int .i64 k.req.prio),.sc (.int .i64 k.req.limit),.sc (.string k.name),.sc (.int .i64 k.n)]
def Cm.a (d:Nat) (k:Cm):V0:=.ag (k.d d)
theorem Ql (d:Nat) (w:Wk) (k:Cm) (h:CI w.c) (hs:∀x∈w.c.procs,eP w.c.queues x=false) (he:w.ev.length<=1000) {Z:Wk×Int} (hZ:wD w k=Z):FSpec prog 93 [ls,k.a d] (HI d w) [3,4] (.i Z.2) (HO d Z.1):=by
 refine aS func93 ?_;obtain ⟨kd,p,r,nm,n⟩:=k;unfold wD at hZ;dsimp only at hZ;have h8:w.c.procs.length<=100000:=by have:=h.len;omega
 by_cases hA:1<=kd/\kd<=9
 case neg =>
  rw [show (decide (1<=kd) && decide (kd<=9))=false by rw [Bool.and_eq_false_iff];simp;omega] at hZ;obtain rfl:Z=(w,1):=hZ.symm;by_cases hA1:1<=kd
  ·refine ao ?_
   (refine cn (qf [(3,1),(4,2)]) ?_;exact ak)
  ·refine ao ?_
   (refine cn (qf [(3,1),(4,2)]) ?_;exact ak)
 obtain ⟨hA1,hA2⟩:=hA;rw [qDt hA1,qDt hA2,Bool.and_self,Bool.not_true,qCf] at hZ;by_cases h1:kd=1
 ·subst h1;have hZ:nK w p n=Z:=hZ;have kO:=Ps d w p n h8 (Qk h p) hZ;repeat' (first|refine az ?_ ?_|refine aa 9 rfl (cH (qf [(1,1),(2,2),(3,1003),(4,1004)]) kO ?_)|refine ay ?_|exact aA|refine ax fun hb=>?_|(refine cn (qf [(3,1003),(4,1004)]) ?_;exact ak))
 rw [qDf h1,qCf] at hZ;by_cases h9:kd=9
 ·subst h9;have hZ:jL w n=Z:=hZ;have kT:=Pi d w n (by have:=h.now;omega) (fun a1 a2 a3=>Px _ _ (h.later a1 (by omega)) hs (pB _) (by show w.ev.length+_<=_;have:=h.len;omega)) hZ;repeat' (first|refine az ?_ ?_|refine aa 9 rfl (cH (qf [(1,1),(2,2),(3,1003),(4,1004)]) kT ?_)|refine ay ?_|exact aA|refine ax fun hb=>?_|(refine cn (qf [(3,1003),(4,1004)]) ?_;exact ak))
 rw [qDf h9,qCf] at hZ;by_cases hI:d8 p 0 w.c.procs<0
 ·rw [qDt hI,qCt] at hZ;obtain rfl:Z=(w,10):=hZ.symm;have kI:=Ba w.c.procs d p;repeat' (first|refine az ?_ ?_|refine aa 9 rfl (cB [1] kI ?_)|refine ay ?_|exact aA|refine ax fun hb=>?_|(refine cn (qf [(3,1),(4,2)]) ?_;exact ak))
 rw [qDf hI,qCf] at hZ;obtain ⟨i,hi,ei,_⟩:=iy (p:=p) (l:=w.c.procs) (k:=0) (by omega);rw [Nat.zero_add] at ei;have kI:=zi w.c.procs d p ei;rw [ei,Int.toNat_natCast] at hZ;clear hI ei;obtain ⟨x,hx⟩:∃x,w.c.procs[i]? = some x:=⟨_,qGg hi⟩;have hpc:=lv hx;by_cases h2:kd=2
 ·subst h2;have hZ:cQ w i r=Z:=hZ;have kT:=IY d w i r (Qi h hi (by omega)) hZ;exact Q5
 rw [qDf h2,qCf] at hZ;by_cases h3:kd=3
 ·subst h3;rw [hpc] at hZ;cases hw:x.waiting with
  | false =>
   exact Q4
  | true =>
   rw [hw] at hZ;have hw2:(w.pc i).waiting=true:=by rw [hpc];exact hw
   obtain ⟨k1,k2,k3,k4,_⟩:=eU h hi hw2;have hi2:i<(aC w i).c.procs.length:=by rw [k3.len];exact hi
   obtain ⟨n1,n2,_⟩:=jc k1 hi2 (by rw [bZ hi2];simp [k4]);have h9:=lg w i;have h88:=dE (w.pc i).req.expr;have kW:=rl d w i hi ((ow h hi hw2).ok (by omega)) (by rw [dF];exact hi);have kX:=ov d (aC w i) i hi2;have kS:=nh d _ _ (xX n1 (by show (aC w i).ev.length<=_;omega));have hZ:(be (bi (aC w i) i).c.procs.length (bi (aC w i) i),(0:Int))=Z:=hZ;obtain ⟨A,hA⟩:=qGe (aC w i);rw [hA] at kW kX kS hZ;obtain ⟨B,hB⟩:=qGe (bi A i);rw [hB] at kX kS hZ;obtain ⟨F,hF⟩:=qGe (be B.c.procs.length B);rw [hF] at kS hZ;obtain rfl:Z=(F,0):=hZ.symm;repeat' (first|refine az ?_ ?_|(refine aa 9 rfl ?_;first|(refine cB [1] kI ?_)|(refine cH (qf [(1,1),(2,2),(3,1003),(4,1004)]) kW ?_)|(refine cH (qf [(1,1003),(2,1004),(3,1005),(4,1006)]) kX ?_)|(refine cH (qf [(1,1005),(2,1006),(3,1007),(4,1008)]) kS ?_))|refine ay ?_|exact aA|(refine ax fun hb=>?_;first|(cases hw.symm.trans hb;done)|skip)|(refine cn (qf [(3,1007),(4,1008)]) ?_;exact ak))
 rw [qDf h3,qCf] at hZ;by_cases h4:kd=4
 ·subst h4;have hZ:eQ w i nm=Z:=hZ;have kT:=IT d w i nm (Pv h hi (by omega)) hZ;exact Q5
 rw [qDf h4,qCf] at hZ;by_cases h5:kd=5
 ·subst h5;rw [hpc] at hZ;obtain ⟨G,hG⟩:=qGe (iH x.led n);have kL:=Pb x.led n hG;have kX:=ov d (w.setP i { x with led:=G.1 }) i (by rw [gX];exact hi);obtain ⟨N,hN⟩:∃N,bi (w.setP i { x with led:=G.1 }) i=N:=⟨_,rfl⟩;have hZ:(bif x.waiting then (w,(14:Int)) else bif !decide (G.2=0) then (w,G.2) else (N,0))=Z:=by rw [<-hZ,<-hN,<-hG];rfl
  rw [hN] at kX;cases hw:x.waiting with
  | true =>
   exact Q4
  | false =>
   rw [hw,qCf] at hZ;by_cases h0:G.2=0
   case neg =>
    obtain rfl:Z=(w,G.2):=by rw [<-hZ,qDf h0];rfl
    repeat' (first|refine az ?_ ?_|(refine aa 9 rfl ?_;first|(refine cB [1] kI ?_)|(refine cC [] kL ?_))|refine ay ?_|exact aA|(refine ax fun hb=>?_;first|(cases hw.symm.trans hb;done)|skip)|(refine cn (qf [(3,1),(4,2)]) ?_;exact ak))
   obtain rfl:Z=(N,0):=by rw [<-hZ,qDt h0];rfl
   repeat' (first|refine az ?_ ?_|(refine aa 9 rfl ?_;first|(refine cB [1] kI ?_)|(refine cC [] kL ?_)|(refine cH (qf [(1,1),(2,2),(3,1003),(4,1004)]) kX ?_))|refine ay ?_|(refine aa 4 rfl ?_;refine bW (aM (z:={ x with led:=G.1 }) rfl rfl rfl rfl hx rfl rfl rfl rfl (qNl rfl) rfl rfl) rfl rfl rfl ?_)|exact aA|(refine ax fun hb=>?_;first|(cases hw.symm.trans hb;done)|skip)|(refine cn (qf [(3,1003),(4,1004)]) ?_;exact ak))
 rw [qDf h5,qCf] at hZ;by_cases h6:kd=6
 ·subst h6;have hZ:cu w i n=Z:=hZ;have kT:=F9 d w i n (Pw h hi (by omega)) hZ;exact Q5
 rw [qDf h6,qCf] at hZ;have kG:=Pp d w i (Qj h hi (by omega));by_cases h8b:kd=8
 ·subst h8b;rw [hpc] at hZ;cases hw:x.waiting with
  | true =>
   exact Q4
  | false =>
   rw [hw] at hZ;obtain ⟨F,hF⟩:=qGe (ib w i);rw [hF] at kG hZ;obtain rfl:Z=(F,0):=hZ.symm;repeat' (first|refine az ?_ ?_|(refine aa 9 rfl ?_;first|(refine cB [1] kI ?_)|(refine cH (qf [(1,1),(2,2),(3,1003),(4,1004)]) kG ?_))|refine ay ?_|exact aA|(refine ax fun hb=>?_;first|(cases hw.symm.trans hb;done)|skip)|(refine cn (qf [(3,1003),(4,1004)]) ?_;exact ak))
 ·rw [qDf h8b] at hZ;obtain rfl:kd=7:=by omega
  obtain ⟨F,hF⟩:=qGe (ib w i);rw [hF] at kG hZ;obtain rfl:Z=(F,0):=hZ.symm;repeat' (first|refine az ?_ ?_|(refine aa 9 rfl ?_;first|(refine cB [1] kI ?_)|(refine cH (qf [(1,1),(2,2),(3,1003),(4,1004)]) kG ?_))|refine ay ?_|exact aA|refine ax fun hb=>?_|(refine cn (qf [(3,1003),(4,1004)]) ?_;exact ak))
theorem PB (t:Tp) (l:List Rs) (h:TOk t) (hl:0<l.length/\l.length<=8) (hu:∀r∈l,1<=r.units/\r.units<=1000) {R:Rq×Tp} (hR:CY t l=R):FSpec prog 191 [ls,.one (.sl f9 l)] (HT t) [] (.v (R.1.a 2)) (Mx R.2):=by
 refine aS func191 ?_;unfold CY at hR;obtain ⟨v,u,e1,e2,hu1,b1,b2,kN⟩:=nx t 8 h (by omega) (by omega);rw [e1,e2] at hR;clear e1 e2;obtain ⟨v2,u2,e1,e2,hu2,c1,c2,kN2⟩:=nx u 5 hu1 (by omega) (by omega);rw [e1,e2] at hR;clear e1 e2;by_cases h1:v2=1
 ·rw [qDt h1,qCt] at hR;obtain ⟨v3,u3,e1,e2,hu3,d1,d2,kN3⟩:=nx u2 20 hu2 (by omega) (by omega);rw [e1,e2] at hR;clear e1 e2;obtain ⟨G,hG⟩:=qGe (pF u3 l);have kE:=I5 u3 l hu3 hl hu hG;rw [hG] at hR;obtain rfl:R=(⟨G.1,v,1+v3⟩,G.2):=hR.symm;repeat' (first|refine az ?_ ?_|(refine aa 9 rfl ?_;first|(refine cH (qf [(0,0)]) kN ?_)|(refine cH (qf [(0,0)]) kN2 ?_)|(refine cH (qf [(0,0)]) kN3 ?_)|(refine cH (qf [(0,0)]) kE ?_))|refine ay ?_|exact aA|(refine ax fun hb=>?_;first|(exact absurd h1 hb)|skip)|(refine cn (qf [(0,0)]) ?_;exact ak))
 ·rw [qDf h1,qCf] at hR;obtain ⟨G,hG⟩:=qGe (pF u2 l);have kE:=I5 u2 l hu2 hl hu hG;rw [hG] at hR;obtain rfl:R=(⟨G.1,v,0⟩,G.2):=hR.symm;repeat' (first|refine az ?_ ?_|(refine aa 9 rfl ?_;first|(refine cH (qf [(0,0)]) kN ?_)|(refine cH (qf [(0,0)]) kN2 ?_)|(refine cH (qf [(0,0)]) kE ?_))|refine ay ?_|exact aA|(refine ax fun hb=>?_;first|(exact absurd hb h1)|skip)|(refine cn (qf [(0,0)]) ?_;exact ak))
theorem PC (t:Tp) (l:List Rs) (h:TOk t) (hl:0<l.length/\l.length<=8) (hu:∀r∈l,1<=r.units/\r.units<=1000) {R:Cm×Tp} (hR:zd t l=R):FSpec prog 104 [ls,.one (.sl f9 l)] (HT t) [] (.v (R.1.a 2)) (Mx R.2):=by
 refine aS func104 ?_;unfold zd at hR;dsimp only at hR;obtain ⟨n,u,e1,e2,hu1,b1,b2,kN⟩:=nx t 16 h (by omega) (by omega);rw [e1,e2] at hR;clear e1 e2;obtain ⟨v2,u2,e1,e2,hu2,c1,c2,kN2⟩:=nx u 6 hu1 (by omega) (by omega);rw [e1,e2] at hR;clear e1 e2;have kP:=ri v2;obtain ⟨p,hp⟩:=qGe (iR v2);rw [hp] at kP hR;by_cases h0:n=0
 ·subst h0;obtain ⟨v3,u3,e1,e2,hu3,d1,d2,kN3⟩:=nx u2 9 hu2 (by omega) (by omega);obtain rfl:R=(⟨1,p,Rq.zero,⟨#[]⟩,1+v3⟩,u3):=by rw [<-hR,<-e1,<-e2];rfl
  clear e1 e2;repeat' (first|refine az ?_ ?_|(refine aa 9 rfl ?_;first|(refine cH (qf [(0,0)]) kN ?_)|(refine cH (qf [(0,0)]) kN2 ?_)|(refine cH (qf [(0,0)]) kN3 ?_)|(refine cB [] kP ?_))|refine ay ?_|exact aA|(refine ax fun hb=>?_;first|(exact absurd rfl hb)|skip)|(refine cn (qf [(0,0)]) ?_;exact ak))
 rw [qDf h0,qCf] at hR;by_cases h9:n<9
 ·rw [qDt h9,qCt] at hR;obtain ⟨G,hG⟩:=qGe (CY u2 l);have kQ:=PB u2 l hu2 hl hu hG;rw [hG] at hR;obtain rfl:R=(⟨2,p,G.1,⟨#[]⟩,0⟩,G.2):=hR.symm;repeat' (first|refine az ?_ ?_|(refine aa 9 rfl ?_;first|(refine cH (qf [(0,0)]) kN ?_)|(refine cH (qf [(0,0)]) kN2 ?_)|(refine cB [] kP ?_)|(refine cH (qf [(0,0)]) kQ ?_))|refine ay ?_|exact aA|(refine ax fun hb=>?_;first|(exact absurd hb h0)|skip)|(refine cn (qf [(0,0)]) ?_;exact ak))
 rw [qDf h9,qCf] at hR;by_cases e9:n=9
 ·subst e9;obtain rfl:R=(⟨3,p,Rq.zero,⟨#[]⟩,0⟩,u2):=hR.symm;exact Q6
 rw [qDf e9,qCf] at hR;by_cases e10:n=10
 ·subst e10;obtain ⟨v3,u3,e1,e2,hu3,d1,d2,kN3⟩:=nx u2 l.length hu2 (by omega) (by omega);obtain ⟨r,hr⟩:∃r,l[v3.toNat]? = some r:=⟨_,qGg (by omega)⟩;obtain rfl:R=(⟨4,p,Rq.zero,r.name,0⟩,u3):=by
   rw [<-hR,<-e2];have e3:l.getD (u2.v l.length).toNat ⟨⟨#[]⟩,0,0,0⟩=r:=by rw [e1,List.getD_eq_getElem?_getD,hr];rfl
   simp only [decide_true,qCt,e3]
  exact Q3
 rw [qDf e10,qCf] at hR;by_cases e11:n=11
 ·subst e11;obtain ⟨v3,u3,e1,e2,hu3,d1,d2,kN3⟩:=nx u2 4 hu2 (by omega) (by omega);obtain rfl:R=(⟨5,p,Rq.zero,⟨#[]⟩,1+v3⟩,u3):=by rw [<-hR,<-e1,<-e2];rfl
  exact Q3
 rw [qDf e11,qCf] at hR;by_cases e12:n=12
 ·subst e12;obtain ⟨v3,u3,e1,e2,hu3,d1,d2,kN3⟩:=nx u2 5 hu2 (by omega) (by omega);obtain rfl:R=(⟨6,p,Rq.zero,⟨#[]⟩,v3⟩,u3):=by rw [<-hR,<-e1,<-e2];rfl
  exact Q3
 rw [qDf e12,qCf] at hR;by_cases e13:n=13
 ·subst e13;obtain rfl:R=(⟨7,p,Rq.zero,⟨#[]⟩,0⟩,u2):=hR.symm;exact Q6
 rw [qDf e13,qCf] at hR;by_cases e14:n=14
 ·subst e14;obtain rfl:R=(⟨8,p,Rq.zero,⟨#[]⟩,0⟩,u2):=hR.symm;exact Q6
 rw [qDf e14,qCf] at hR;obtain ⟨v3,u3,e1,e2,hu3,d1,d2,kN3⟩:=nx u2 12 hu2 (by omega) (by omega);obtain rfl:R=(⟨9,p,Rq.zero,⟨#[]⟩,v3⟩,u3):=by rw [<-hR,<-e1,<-e2]
 clear e1 e2;repeat' (first|refine az ?_ ?_|(refine aa 9 rfl ?_;first|(refine cH (qf [(0,0)]) kN ?_)|(refine cH (qf [(0,0)]) kN2 ?_)|(refine cH (qf [(0,0)]) kN3 ?_)|(refine cB [] kP ?_))|refine ay ?_|exact aA|(refine ax fun hb=>?_;first|(exact absurd hb e9)|(exact absurd hb e10)|(exact absurd hb e11)|(exact absurd hb e12)|(exact absurd hb e13)|(exact absurd hb e14)|skip)|(refine cn (qf [(0,0)]) ?_;exact ak))
end Go.Proofs.YtkkbopkbjacfmaaGreatDoor
