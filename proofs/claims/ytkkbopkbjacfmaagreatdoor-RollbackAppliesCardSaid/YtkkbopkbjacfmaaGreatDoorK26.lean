/- Part K26 of a proof of statements of chapter 15 (no condition). -/
import Derived.Test.YtkkbopkbjacfmaaGreatDoorK22
import Derived.Test.YtkkbopkbjacfmaaGreatDoorK23
set_option linter.unusedVariables false
set_option linter.unusedSimpArgs false
set_option maxRecDepth 100000
set_option maxHeartbeats 64000000
namespace Go.Proofs.YtkkbopkbjacfmaaGreatDoor
open Go.RowKit Go.Proofs.Tryz
theorem K6 (q:Qu) (h1:q.holds.length<=100000) (h2:q.convs.length<=100000) (h3:q.waits.length<=100000):FSpec prog 79 [q.a] [] [0] (.v (.ag [.sc (.string q.res.name),.sc (.int .i64 q.res.kind),.sc (.int .i64 q.res.units),.sc (.int .i64 q.res.home),.sl g8 q.holds,.own 0,.sl gc q.waits,.sc (.int .i64 q.gen)])) [(0,some (.arr 154 gc q.convs))]:=by
 refine aS func79 ?_;refine ao ?_;refine cn (qf [(0,11)]) ?_;exact ak
theorem qX (q:Qu) (p:Pr) (a:Am) (prio:Int) {R:Qu×List Ho×Int} (hR:bO q p a prio=R) (hS:ai q=true) (hv:gm p=true) (h1:0<=prio) (h2:prio<=7) (hf:aH q.res a=true) (hw:ah q p=none) (hc:bc q.res (af q.holds p) a=false) :
  R=(bif !aJ (af q.holds p) then jJ (eN { q with convs:=q.convs++[⟨p,cl q.res (af q.holds p) a,0,0⟩] }) else
 bif decide (8<=q.holds.length+q.waits.length) then bY 4 else
 bif !decide ((nv q.waits ⟨p,a,prio,0⟩).1=0) then bY (nv q.waits ⟨p,a,prio,0⟩).1 else
 jJ (eN { q with waits:=(nv q.waits ⟨p,a,prio,0⟩).2 })):=by
 rw [<-hR];simp [bO,hS,hv,h1,h2,hf,hw,hc]
theorem Eg (q:Qu) (p:Pr) (a:Am) (prio:Int) {R:Qu×List Ho×Int} (hR:bO q p a prio=R):FSpec prog 324 [q.a,p.a,a.a,.one (.sc (.int .i64 prio))] [] [] (y5 R) []:=by
 refine aS func324 ?_;cases hS:ai q with
 | false =>
  obtain rfl:R=bY 2:=by rw [<-hR];simp [bO,hS]
  have:=cA q;refine ao ?_
  (refine fk (qf []) ?_;exact ak)
 | true =>
  have hs:=aG hS;have h1:=hs.hv.len;have h2:=hs.clen;have h3:=hs.wlen;by_cases hA:gm p=true/\0<=prio/\prio<=7
  case neg =>
   obtain rfl:R=bY 1:=by
    rw [<-hR];unfold bO;rw [hS,bF (b:=!true) rfl,bT];cases hv:gm p <;> simp [hv] at hA ⊢
    omega
   have hN:∀b,gm p=b->(b=true->0<=prio->prio<=7->False):=fun b hb x y z=>hA ⟨hb.trans x,y,z⟩;clear hA;have:=cA q;have:=eS p;repeat' (first|refine az ?_ ?_|refine fV ?_|refine ay ?_|exact aA|(refine ax fun hb=>?_;first|(exact (hN true (by assumption) rfl (by omega) (by omega)).elim)|skip)|(refine fk (qf []) ?_;exact ak))
  obtain ⟨hv,hp1,hp2⟩:=hA;cases hf:aH q.res a with
  | false =>
   obtain rfl:R=bY 12:=by rw [<-hR];simp [bO,hS,hv,hp1,hp2,hf]
   have:=cA q;have:=eS p;have:=iN q.res a;refine ao ?_
   (refine fk (qf []) ?_;exact ak)
  | true =>
   cases hw:ah q p with
   | some b =>
    obtain rfl:R=bY 14:=by rw [<-hR];simp [bO,hS,hv,hp1,hp2,hf,hw]
    have:=cA q;have:=eS p;have:=iN q.res a;have:=ce q p hw;refine ao ?_
    (refine fk (qf []) ?_;exact ak)
   | none =>
    cases hc:bc q.res (af q.holds p) a with
    | true =>
     obtain rfl:R=jJ (q,[]):=by rw [<-hR];simp [bO,hS,hv,hp1,hp2,hf,hw,hc]
     have:=cA q;have:=eS p;have:=iN q.res a;have:=ce q p hw;have:=ol q (by omega) (by omega) (by omega);have:=eT q p;have:=dt q.res (af q.holds p) a;refine ao ?_
     (refine fk (qf []) ?_;exact ak)
    | false =>
     cases hz:aJ (af q.holds p) with
     | false =>
      obtain rfl:R=jJ (eN { q with convs:=q.convs++[⟨p,cl q.res (af q.holds p) a,0,0⟩] }):=by rw [qX q p a prio hR hS hv hp1 hp2 hf hw hc,hz];rfl
      have hd:=(hs.cons (bg.1 hz) hw hf hc);repeat' (first|refine az ?_ ?_|(refine aa 8 rfl ?_;refine aK (ae rfl rfl (av rfl rfl) (aB [⟨p,cl q.res (af q.holds p) a,0,0⟩] rfl rfl rfl rfl) rfl aE aE) rfl rfl rfl ?_)|(refine aa 9 rfl ?_;first|(refine cB [] (cA q) ?_)|(refine cB [] (eS p) ?_)|(refine cB [] (iN q.res a) ?_)|(refine cB [] (ce q p hw) ?_)|(refine cH (qf [(0,1000)]) (K6 q (by omega) (by omega) (by omega)) ?_)|(refine cB [1000] (eT q p) ?_)|(refine cB [] (dt q.res (af q.holds p) a) ?_)|(refine cB [] (eH (af q.holds p)) ?_)|(refine cB [] (Il q.res (af q.holds p) a) ?_)|(refine cC [71] (mm { q with convs:=q.convs++[⟨p,cl q.res (af q.holds p) a,0,0⟩] } hd) ?_))|refine ay ?_|exact aA|refine ax fun hb=>?_|(refine fk (qf []) ?_;exact ak))
     | true =>
      have hz0:af q.holds p=⟨0,0⟩:=by simpa [aJ] using hz
      by_cases hn:8<=q.holds.length+q.waits.length
      case pos =>
       obtain rfl:R=bY 4:=by rw [qX q p a prio hR hS hv hp1 hp2 hf hw hc,hz];simp [hn]
       have:=cA q;have:=eS p;have:=iN q.res a;have:=ce q p hw;have:=ol q (by omega) (by omega) (by omega);have:=eT q p;have:=dt q.res (af q.holds p) a;have:=eH (af q.holds p);refine ao ?_
       (refine fk (qf []) ?_;exact ak)
      obtain ⟨e,he1,he2⟩:∃e,nv q.waits ⟨p,a,prio,0⟩=(0,e)/\Sd { q with waits:=e }:=by
       have hi:=tT hs hw hf hv ⟨hp1,hp2⟩ (Nat.lt_of_not_le hn);exact ⟨_,hi.1,hs.ins (w:=⟨p,a,prio,0⟩) hz0 hw hf hi.2 (Nat.lt_of_not_le hn)⟩
      have hI:=Ip q.waits ⟨p,a,prio,0⟩;rw [he1] at hI;obtain rfl:R=jJ (eN { q with waits:=e }):=by rw [qX q p a prio hR hS hv hp1 hp2 hf hw hc,hz,he1];simp [hn]
      have:=cA q;have:=eS p;have:=iN q.res a;have:=ce q p hw;have:=ol q (by omega) (by omega) (by omega);have:=eT q p;have:=dt q.res (af q.holds p) a;have:=eH (af q.holds p);have:=mm { q with waits:=e } he2;refine ao ?_
      (refine fk (qf []) ?_;exact ak)
theorem EX (q:Qu) (h1:q.holds.length<=100000) (h2:q.convs.length<=100000) (h3:q.waits.length<=100000):FSpec prog 244 [q.a] [] [] (.v q.a) []:=by
 refine aS func244 ?_;exact QY
theorem yg (q:Qu) (hs:Sd q):FSpec prog 318 [.one (.ptr 0 0)] [(0,.box 78 q.d)] [] (.c (.sl g8 (o9 q).2)) [(0,some (.box 78 (o9 q).1.d))]:=by
 have hh:=hs.hv.len;have h1:=hs.clen;have h2:=hs.wlen;have hm:fO q<=16:=by unfold fO;omega
 refine aS func318 ?_;repeat' (first|refine az ?_ ?_|((with_reducible refine D5 ?_);refine Hu ?_)|((with_reducible refine D5 ?_);refine Aa ?_)|refine ay ?_|exact aA|refine ax fun hb=>?_)
 refine bK 3 1000 223 g8 rfl rfl rfl ?_;refine ab (fun x:Nat×Qu×List Ho=>Sd x.2.1/\fO x.2.1<=x.1/\fg x.1 x.2.1 x.2.2=o9 q/\x.2.2.length+x.1<=16) (fun x=>bC [0,1000] [(0,.c (.ptr 0 0)),(3,.c (.own 1000))] [(0,.box 78 x.2.1.d),(1000,.arr 223 g8 x.2.2)]) (fun x=>x.1) (fO q,q,[]) ⟨hs,Nat.le_refl _,rfl,by simpa using hm⟩ aL ?_;rintro ⟨n,q1,acc⟩ ⟨hs1,hn,hadv,hlen⟩;dsimp only at *
 have kH:=JP q1;cases hset:ai q1 with
 | true =>
  rw [AK hs1 hset] at hadv;rw [<-hadv];have hroom:=(db.1 hset).2;cases hq:dv q1 with
  | none =>
   rw [hq,Option.isSome_none] at kH;refine ao ?_
   (refine ⟨fun _ h=>(by cases h),?_⟩;refine cn (qf []) ?_;exact ak)
  | some x =>
   have hr:=hroom x hq;obtain ⟨z,hz⟩:=qGe (nM q1);rw [hq,hz,Option.isSome_some] at kH;obtain rfl:x=z:=by rw [<-hz];unfold nM;rw [hq];rfl
   have kR:=Jb q1.res q1.holds x.proc x.am;rw [hr] at kR;refine ao ?_
   (refine ⟨fun _ h=>(by cases h),?_⟩;refine cn (qf []) ?_;exact ak)
 | false =>
  obtain ⟨x,hx,hs2,hn2,hpos,hgo⟩:=xK (acc:=acc) hs1 hset hn;rw [hgo] at hadv;have hh1:=hs1.hv.len;have kR:=Jb q1.res q1.holds x.proc x.am;rw [show gi q1.res q1.holds x.proc x.am=true by have:=hset;simpa [ai,n9.2 hs1,hx] using this] at kR;obtain ⟨z,hz⟩:=qGe (nM q1);rw [hx,hz,Option.isSome_some] at kH;obtain rfl:x=z:=by rw [<-hz];unfold nM;rw [hx];rfl
  clear hz;obtain ⟨r,hs',cs,ws,gn⟩:=q1;cases cs with
  | cons y cs =>
   obtain rfl:y=x:=by simpa [dv] using hx
   repeat' (first|refine az ?_ ?_|(refine aa 8 rfl ?_;refine aK (ae rfl rfl (av rfl rfl) (aB [⟨y.proc,y.am⟩] rfl rfl rfl rfl) rfl aE aE) rfl rfl rfl ?_)|(refine aa 9 rfl ?_;first|(refine cB [] kH ?_)|(refine cB [] kR ?_)|(refine cC [] (LI hs' y.proc y.am (by dsimp only at hh1;omega)) ?_))|refine ay ?_|exact aA|(refine ax fun hb=>?_;first|(simp at hb;done)|skip))
   refine ⟨(n-1,g4 ⟨r,hs',y :: cs,ws,gn⟩ y,acc++[⟨y.proc,y.am⟩]),⟨hs2,by dsimp only;omega,hadv,by simp;omega⟩,by dsimp only;omega,?_⟩;exact a8 (qf [(1000,74)])
  | nil =>
   obtain ⟨ws2,rfl⟩:∃m,ws=x :: m:=by
    cases ws with
    | nil=>simp [dv] at hx
    | cons z m=>exact ⟨m,by rw [show z=x by simpa [dv] using hx]⟩
   repeat' (first|refine az ?_ ?_|(refine aa 8 rfl ?_;refine aK (ae rfl rfl (av rfl rfl) (aB [⟨x.proc,x.am⟩] rfl rfl rfl rfl) rfl aE aE) rfl rfl rfl ?_)|(refine aa 9 rfl ?_;first|(refine cB [] kH ?_)|(refine cB [] kR ?_)|(refine cC [] (LI hs' x.proc x.am (by dsimp only at hh1;omega)) ?_))|refine ay ?_|exact aA|(refine ax fun hb=>?_;first|(simp at hb;done)|skip))
   refine ⟨(n-1,g4 ⟨r,hs',[],x :: ws2,gn⟩ x,acc++[⟨x.proc,x.am⟩]),⟨hs2,by dsimp only;omega,hadv,by simp;omega⟩,by dsimp only;omega,?_⟩;exact a8 (qf [(1000,74)])
theorem MQ (n:Int):FSpec prog 319 [iV n] [] [] (.i (bE n)) []:=by
 obtain ⟨v,hv⟩:=qGe (bE n);rw [hv];unfold bE at hv;refine aS func319 ?_;by_cases h:n<0\/1073741824<=n
 ·rw [if_pos h] at hv;obtain rfl:=hv;repeat' (first|refine az ?_ ?_|refine ay ?_|exact aA|refine ax fun hb=>?_|exact aT|fail)
 ·rw [if_neg h] at hv;obtain rfl:=hv;exact QY
theorem Qx (q:Qu) (p:Pr) (hl:q.convs.length<=100000):FSpec prog 246 [.one (.ptr 0 0),.one (.ptr 1 0)] [(0,.box 78 q.d),Eb 1 p] [] (.tup []) [(0,some (.box 78 { q with convs:=bX q.convs p }.d)),(1,some (Eb 1 p).2)]:=by
 refine aS func246 ?_;have:=BR q.convs p hl;refine ao ?_
 (exact D7 (qf []))
theorem Qy (q:Qu) (p:Pr) (hl:q.waits.length<=100000):FSpec prog 248 [.one (.ptr 0 0),.one (.ptr 1 0)] [(0,.box 78 q.d),Eb 1 p] [] (.tup []) [(0,some (.box 78 { q with waits:=bX q.waits p }.d)),(1,some (Eb 1 p).2)]:=by
 refine aS func248 ?_;have:=BR q.waits p hl;refine ao ?_
 (exact D7 (qf []))
theorem Ol (q:Qu) (p:Pr) (hc:q.convs.length<=100000) (hw:q.waits.length<=100000) {q2:Qu} (hq:{ q with convs:=bX q.convs p,waits:=bX q.waits p } = q2) (hs:Sd q2):FSpec prog 245 [.one (.ptr 0 0),.one (.slb 1 2)] [(0,.box 78 q.d),(1,.box 1 [.clo 246 [0,2],.clo 248 [0,2]]),Eb 2 p] [] (y5 (jJ (eN q2))) [(0,none),(1,none),(2,none)]:=by
 refine aS func245 ?_;obtain ⟨q1,hq1⟩:∃q1,{ q with convs:=bX q.convs p } = q1:=⟨_,rfl⟩;have k1:=Qx q p hc;rw [hq1] at k1;have k2:=Qy q1 p (by rw [<-hq1];exact hw);rw [show ({ q1 with waits:=bX q1.waits p }:Qu)=q2 by rw [<-hq,<-hq1]] at k2;repeat' (first|refine az ?_ ?_|(refine aa 7 rfl ?_;refine sx (fQ rfl rfl) ?_)|refine ay ?_|exact aA|refine ax fun hb=>?_)
 refine ab (fun x:Nat×Qu=>x.1=0/\x.2=q\/x.1=1/\x.2=q1\/x.1=2/\x.2=q2) (fun x=>bC [0,1,2,4] [(0,.c (.ptr 0 0)),(4,.c (.ptr 4 0)),(10,.c (.slb 1 2)),(11,.i 2),(12,.i x.1)] [(0,.box 78 x.2.d),(4,.box 78 ND),(1,.box 1 [.clo 246 [0,2],.clo 248 [0,2]]),Eb 2 p]) (fun x=>2-x.1) (0,q) (.inl ⟨rfl,rfl⟩) aL ?_;rintro ⟨i,z⟩ hz;dsimp only at *
 rcases hz with ⟨rfl,rfl⟩|⟨rfl,rfl⟩|⟨rfl,rfl⟩
 ·repeat' (first
   | refine az ?_ ?_
   | (refine aa 6 rfl ?_;refine sx (bL (i:=0) rfl rfl rfl rfl (by decide)) ?_)
   | (refine aa 9 rfl ?_;refine JU 0 [0,1] (qf [(0,0),(1,2)]) k1 ?_)
   | refine ay ?_
   | exact aA|(refine ax fun hb=>?_;first|(exact absurd hb (by decide))|skip))
  refine ⟨(1,q1),.inr (.inl ⟨rfl,rfl⟩),by simp,?_⟩;exact aL
 ·repeat' (first
   | refine az ?_ ?_
   | (refine aa 6 rfl ?_;refine sx (bL (i:=1) rfl rfl rfl rfl (by decide)) ?_)
   | (refine aa 9 rfl ?_;refine JU 0 [0,1] (qf [(0,0),(1,2)]) k2 ?_)
   | refine ay ?_
   | exact aA|(refine ax fun hb=>?_;first|(exact absurd hb (by decide))|skip))
  refine ⟨(2,q2),.inr (.inr ⟨rfl,rfl⟩),by simp,?_⟩;exact aL
 ·have kA:=yg z hs;unfold eN;obtain ⟨⟨N,G⟩,hN⟩:∃x,o9 z=x:=⟨_,rfl⟩;have hg:N.gen=z.gen:=by have:=(kf hs).2.1;rw [hN] at this;exact this
  exact Rf
end Go.Proofs.YtkkbopkbjacfmaaGreatDoor
