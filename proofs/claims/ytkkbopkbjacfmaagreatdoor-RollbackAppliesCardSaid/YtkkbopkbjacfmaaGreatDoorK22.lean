/- Part K22 of a proof of statements of chapter 15 (no condition). -/
import Derived.Test.YtkkbopkbjacfmaaGreatDoorK19
set_option linter.unusedVariables false
set_option linter.unusedSimpArgs false
set_option maxRecDepth 100000
set_option maxHeartbeats 64000000
namespace Go.Proofs.YtkkbopkbjacfmaaGreatDoor
open Go.RowKit Go.Proofs.Tryz
theorem AK {n:Nat} {q:Qu} {acc:List Ho} (hs:Sd q) (h:ai q=true):fg n q acc=(q,acc):=by
 cases n with
 | zero=>rfl
 | succ n =>
  have h2:=(db.1 h).2;unfold fg;cases hh:dv q with
  | none=>rfl
  | some x=>dsimp only;rw [h2 x hh];rfl
theorem xK {n:Nat} {q:Qu} {acc:List Ho} (hs:Sd q) (h:ai q=false) (hn:fO q<=n):∃x,dv q=some x/\Sd (g4 q x)/\fO (g4 q x)+1=fO q/\0<n/\fg n q acc=fg (n-1) (g4 q x) (acc++[⟨x.proc,x.am⟩]):=by
 cases hh:dv q with
 | none=>rw [db.2 ⟨hs,fun x hx=>by rw [hh] at hx;cases hx⟩] at h;cases h
 | some x =>
  have hr:gi q.res q.holds x.proc x.am=true:=by
   cases hc:gi q.res q.holds x.proc x.am with
   | true=>rfl
   | false=>rw [db.2 ⟨hs,fun y hy=>by rw [hh] at hy;injection hy with hy;rw [<-hy];exact hc⟩] at h;cases h
  have hp:=CG hh;obtain ⟨m,rfl⟩:∃m,n=m+1:=⟨n-1,by omega⟩;refine ⟨x,rfl,hs.pop hh hr,hp,Nat.succ_pos _,?_⟩;rw [fg,hh];dsimp only;rw [hr];rfl
def ND:List D:=[.sc (.string ⟨#[]⟩),.sc (.int .i64 0),.sc (.int .i64 0),.sc (.int .i64 0),.sc (.slice none 0 0),.sc (.slice none 0 0),.sc (.slice none 0 0),.sc (.int .i64 0)]
theorem Iv (q:Qu) (hs:Sd q):FSpec prog 260 [q.a] [] [] (.tup [(o9 q).1.a,.one (.sl g8 (o9 q).2)]) []:=by
 have hh:=hs.hv.len;have h1:=hs.clen;have h2:=hs.wlen;have hsd:=n9.2 hs;have hm:fO q<=16:=by unfold fO;omega
 refine aS func260 ?_;have:=yZ q;have:=ol q (by omega) (by omega) (by omega);refine ao ?_;refine bK 4 1000 223 g8 rfl rfl rfl ?_;refine ab (fun x:Nat×Qu×List Ho=>Sd x.2.1/\fO x.2.1<=x.1/\fg x.1 x.2.1 x.2.2=o9 q/\x.2.2.length+x.1<=16) (fun x=>bC [1,2,1000] [(1,.c (.ptr 1 0)),(2,.c (.ptr 2 0)),(4,.c (.own 1000))] [(1,.box 78 x.2.1.d),(2,.box 78 ND),(1000,.arr 223 g8 x.2.2)]) (fun x=>x.1) (fO q,q,[]) ⟨hs,Nat.le_refl _,rfl,by simpa using hm⟩ aL ?_;rintro ⟨n,q1,acc⟩ ⟨hs1,hn,hadv,hlen⟩;dsimp only at *
 cases hset:ai q1 with
 | true =>
  have:=pt q1;refine ao ?_;rw [AK hs1 hset] at hadv;rw [<-hadv];refine gG (qf []) ?_;exact ak
 | false =>
  obtain ⟨x,hx,hs2,hn2,hpos,hgo⟩:=xK (acc:=acc) hs1 hset hn;rw [hgo] at hadv;have hh1:=hs1.hv.len;have hq1:=hs1;obtain ⟨r,hs',cs,ws,gn⟩:=q1;cases cs with
  | cons y cs =>
   obtain rfl:y=x:=by simpa [dv] using hx
   repeat' (first|refine az ?_ ?_|(refine aa 8 rfl ?_;refine aK (ae rfl rfl (av rfl rfl) (aB [⟨y.proc,y.am⟩] rfl rfl rfl rfl) rfl aE aE) rfl rfl rfl ?_)|(refine aa 9 rfl ?_;first|(refine cB [] (pt ⟨r,hs',y :: cs,ws,gn⟩) ?_)|(refine cB [] (Iq ⟨r,hs',y :: cs,ws,gn⟩) ?_)|(refine cC [] (Io hs' y.proc y.am (by dsimp only at hh1;omega)) ?_))|refine ay ?_|exact aA|(refine ax fun hb=>?_;first|(simp [hset] at hb;done)|skip))
   ·refine ⟨(n-1,g4 ⟨r,hs',y :: cs,ws,gn⟩ y,acc++[⟨y.proc,y.am⟩]),⟨hs2,by dsimp only;omega,hadv,by simp;omega⟩,by dsimp only;omega,?_⟩;exact a8 (qf [(1000,48)])
  | nil =>
   obtain ⟨ws2,rfl⟩:∃m,ws=x :: m:=by
    cases ws with
    | nil=>simp [dv] at hx
    | cons z m=>exact ⟨m,by rw [show z=x by simpa [dv] using hx]⟩
   repeat' (first|refine az ?_ ?_|(refine aa 8 rfl ?_;refine aK (ae rfl rfl (av rfl rfl) (aB [⟨x.proc,x.am⟩] rfl rfl rfl rfl) rfl aE aE) rfl rfl rfl ?_)|(refine aa 9 rfl ?_;first|(refine cB [] (pt ⟨r,hs',[],x :: ws2,gn⟩) ?_)|(refine cB [] (Iq ⟨r,hs',[],x :: ws2,gn⟩) ?_)|(refine cC [] (Io hs' x.proc x.am (by dsimp only at hh1;omega)) ?_))|refine ay ?_|exact aA|(refine ax fun hb=>?_;first|(simp [hset] at hb;done)|skip))
   ·refine ⟨(n-1,g4 ⟨r,hs',[],x :: ws2,gn⟩ x,acc++[⟨x.proc,x.am⟩]),⟨hs2,by dsimp only;omega,hadv,by simp;omega⟩,by dsimp only;omega,?_⟩;exact a8 (qf [(1000,48)])
def y5 (R:Qu×List Ho×Int):TV:=.tup [R.1.a,.one (.sl g8 R.2.1),.one (.sc (.int .i64 R.2.2))]
theorem eT (q:Qu) (p:Pr):FSpec prog 31 [q.a,p.a] [] [] (.v (af q.holds p).a) []:=by
 refine aS func31 ?_;have:=Ny q.holds p;exact QY
theorem ce (q:Qu) (p:Pr) {o:Option Am} (h:ah q p=o):FSpec prog 29 [q.a,p.a] [] [] (.tup [(CP o).a,.one (.sc (.bool o.isSome))]) []:=h▸Ea q p
theorem FV (q:Qu) (p:Pr):FSpec prog 131 [q.a,p.a] [] [] (.b (dY q p)) []:=by
 refine aS func131 ?_;cases hw:ah q p with
 | some a =>
  rw [show dY q p=true by unfold dY;rw [hw];rfl];have:=ce q p hw;exact QY
 | none =>
  rw [show dY q p = !aJ (af q.holds p) by unfold dY;rw [hw];rfl];have:=ce q p hw;have:=eT q p;have:=eH (af q.holds p);exact QY
theorem mm (q:Qu) (hs:Sd q):FSpec prog 169 [q.a] [] [] (y5 (jJ (eN q))) []:=by
 refine aS func169 ?_;have:=Iv q hs;have:=Ms q.gen;refine ao ?_
 (refine fk (qf []) ?_;exact ak)
theorem bF {α:Type} {b:Bool} {x y:α} (h:b=false):(bif b then x else y)=y:=by rw [h];rfl
theorem bT {α:Type} {b:Bool} {x y:α} (h:b=true):(bif b then x else y)=x:=by rw [h];rfl
theorem AL (q:Qu) (p:Pr) {R:Qu×List Ho×Int} (hR:bd q p=R):FSpec prog 77 [q.a,p.a] [] [] (y5 R) []:=by
 refine aS func77 ?_;cases hS:ai q with
 | false =>
  obtain rfl:R=bY 2:=by rw [<-hR];simp [bd,hS]
  have:=cA q;refine ao ?_
  (refine fk (qf []) ?_;exact ak)
 | true =>
  have hs:=aG hS;have h1:=hs.hv.len;have h2:=hs.clen;have h3:=hs.wlen;cases hw:ah q p with
  | none =>
   obtain rfl:R=bY 10:=by rw [<-hR];simp [bd,hS,hw]
   have:=cA q;have:=ce q p hw;refine ao ?_
   (refine fk (qf []) ?_;exact ak)
  | some a =>
   obtain rfl:R=jJ (eN { q with convs:=bX q.convs p,waits:=bX q.waits p }):=by rw [<-hR];simp [bd,hS,hw]
   have hd:=hs.drop p;repeat' (first|refine az ?_ ?_|(refine aa 9 rfl ?_;first|(refine cB [] (cA q) ?_)|(refine cB [] (ce q p hw) ?_)|(refine cC [] (ol q (by omega) (by omega) (by omega)) ?_)|(refine cC [] (pq q.convs p (by omega)) ?_)|(refine cC [] (pq q.waits p (by omega)) ?_)|(refine cC [] (mm { q with convs:=bX q.convs p,waits:=bX q.waits p } hd) ?_))|refine ay ?_|exact aA|(refine ax fun hb=>?_;first|(simp [hS] at hb;done)|skip)|(refine fk (qf []) ?_;exact ak))
theorem y6 (q:Qu) (p:Pr) (a:Am) {R:Qu×List Ho×Int} (hR:aY q p a=R):FSpec prog 78 [q.a,p.a,a.a] [] [] (y5 R) []:=by
 refine aS func78 ?_;cases hS:ai q with
 | false =>
  obtain rfl:R=bY 2:=by rw [<-hR];simp [aY,hS]
  have:=cA q;refine ao ?_
  (refine fk (qf []) ?_;exact ak)
 | true =>
  have hs:=aG hS;have h1:=hs.hv.len;have h2:=hs.clen;have h3:=hs.wlen;cases hz:aJ (af q.holds p) with
  | true =>
   obtain rfl:R=bY 10:=by rw [<-hR];simp [aY,hS,hz]
   have:=cA q;have:=eT q p;have:=eH (af q.holds p);refine ao ?_
   (refine fk (qf []) ?_;exact ak)
  | false =>
   cases hw:ah q p with
   | some b =>
    obtain rfl:R=bY 14:=by rw [<-hR];simp [aY,hS,hz,hw]
    have:=cA q;have:=eT q p;have:=eH (af q.holds p);have:=ce q p hw;refine ao ?_
    (refine fk (qf []) ?_;exact ak)
   | none =>
    cases hc:bc q.res (af q.holds p) a with
    | false =>
     obtain rfl:R=bY 12:=by rw [<-hR];simp [aY,hS,hz,hw,hc]
     have:=cA q;have:=eT q p;have:=eH (af q.holds p);have:=ce q p hw;have:=dt q.res (af q.holds p) a;refine ao ?_
     (refine fk (qf []) ?_;exact ak)
    | true =>
     have hd:=hs.lower hw (bg.1 hz) hc;obtain ⟨R1,hR1⟩:∃R1,R1=(bif decide (af q.holds p=a) then jJ (q,[]) else jJ (eN { q with holds:=cE q.holds p a })):=⟨_,rfl⟩;obtain rfl:R=R1:=by rw [<-hR,hR1];simp [aY,hS,hz,hw,hc]
     clear hR;have:=cA q;have:=eT q p;have:=eH (af q.holds p);have:=ce q p hw;have:=dt q.res (af q.holds p) a;have:=ol q (by omega) (by omega) (by omega);have:=Io q.holds p a (by omega);have:=mm { q with holds:=cE q.holds p a } hd;repeat' (first|refine az ?_ ?_|refine fV ?_|refine ay ?_|exact aA|(refine ax fun hb=>?_;first|(simp [hS] at hb;done)|(simp [hz] at hb;done)|(simp [hc] at hb;done)|skip))
     ·obtain rfl:R=jJ (q,[]):=by rw [hR1];simp [hb]
      refine fk (qf []) ?_;exact ak
     ·obtain rfl:R=jJ (eN { q with holds:=cE q.holds p a }):=by rw [hR1];simp [hb]
      refine fk (qf []) ?_;exact ak
theorem vz (q:Qu) (p:Pr) {R:Qu×List Ho×Int} (hR:br q p=R):FSpec prog 132 [q.a,p.a] [] [] (y5 R) []:=by
 refine aS func132 ?_;cases hS:ai q with
 | false =>
  obtain rfl:R=bY 2:=by rw [<-hR];simp [br,hS]
  have:=cA q;refine ao ?_
  (refine fk (qf []) ?_;exact ak)
 | true =>
  have hs:=aG hS;have h1:=hs.hv.len;have h2:=hs.clen;have h3:=hs.wlen;cases hh:dY q p with
  | false =>
   obtain rfl:R=bY 10:=by rw [<-hR];simp [br,hS,hh]
   have:=cA q;have:=FV q p;refine ao ?_
   (refine fk (qf []) ?_;exact ak)
  | true =>
   obtain rfl:R=jJ (eN { q with holds:=cE q.holds p ⟨0,0⟩,convs:=bX q.convs p,waits:=bX q.waits p }):=by rw [<-hR];simp [br,hS,hh]
   have hd:=hs.gone p;repeat' (first|refine az ?_ ?_|(refine aa 9 rfl ?_;first|(refine cB [] (cA q) ?_)|(refine cB [] (FV q p) ?_)|(refine cC [] (ol q (by omega) (by omega) (by omega)) ?_)|(refine cC [] (Io q.holds p ⟨0,0⟩ (by omega)) ?_)|(refine cC [] (pq q.convs p (by omega)) ?_)|(refine cC [] (pq q.waits p (by omega)) ?_)|(refine cC [] (mm { q with holds:=cE q.holds p ⟨0,0⟩,convs:=bX q.convs p,waits:=bX q.waits p } hd) ?_))|refine ay ?_|exact aA|(refine ax fun hb=>?_;first|(simp [hS] at hb;done)|(simp [hh] at hb;done)|skip)|(refine fk (qf []) ?_;exact ak))
end Go.Proofs.YtkkbopkbjacfmaaGreatDoor
