/- Part G01 of a proof of statements of chapter 15 (no condition). -/
import Derived.Test.YthpgjkjgkhjjlaaGreatDoorK42
set_option linter.unusedVariables false
set_option linter.unusedSimpArgs false
set_option maxRecDepth 100000
set_option maxHeartbeats 64000000
namespace Go.Proofs.YthpgjkjgkhjjlaaGreatDoor
open Go.RowKit Go.Proofs.Tryz
def pi:Cs->List Cm->Cs
 | c,[]=>c
 | c,k :: l=>pi (bif decide ((cy c k).2.2=0) then (cy c k).1 else c) l
theorem Cx:∀(l:List Cm) (c:Cs),cG c=true->cG (pi c l)=true
 | [],_,h=>h
 | k :: l,c,h=>by
  show cG (pi (bif decide ((cy c k).2.2=0) then (cy c k).1 else c) l)=true;by_cases he:(cy c k).2.2=0
  ·exact V8
  ·rw [qDf he];exact Cx l c h
theorem mi {c:Cs} {k:Cm} (h:cG c=true) (h0:(g8 ⟨c,[]⟩ k).2=0):cy c k=((g8 ⟨c,[]⟩ k).1.c,(g8 ⟨c,[]⟩ k).1.ev,0):=by
 unfold cy;rw [h,qDt h0];rfl
theorem iQ {c:Cs} {k:Cm} (h:(cy c k).2.2=0):cG c=true/\(g8 ⟨c,[]⟩ k).2=0:=by
 have hc:=(fI h).1;refine ⟨hc,?_⟩;unfold cy at h;rw [hc] at h;by_cases h0:(g8 ⟨c,[]⟩ k).2=0
 ·exact h0
 ·rw [qDf h0] at h;exact h
theorem CQ {c:Cs} {k:Cm} (h:(cy c k).2.2≠0):(cy c k).1=LA/\(cy c k).2.1=[]:=by
 unfold cy at h ⊢;cases hc:cG c with
 | false=>exact ⟨rfl,rfl⟩
 | true =>
  rw [hc] at h;by_cases h0:(g8 ⟨c,[]⟩ k).2=0
  ·rw [qDt h0] at h;exact absurd rfl h
  ·rw [qDf h0];exact ⟨rfl,rfl⟩
def i5 (w:Wk) (i:Nat):Wk:=bw (aZ (ai (w.note 4 (w.pc i).proc) i) i)
theorem d5 (n:Nat) (w:Wk):cI (n+1) w=bif decide (cA w<0) then w else cI n (i5 w (cA w).toNat):=rfl
theorem qu {w:Wk} (h:CI w.c) (he:0<=cA w):CI (i5 w (cA w).toNat).c/\ct (i5 w (cA w).toNat).c.procs+1<=ct w.c.procs/\Kp w (i5 w (cA w).toNat):=by
 obtain ⟨hi,hl⟩:=(gF w).2 he;generalize (cA w).toNat=i at *
 have hc0:CI (w.note 4 (w.pc i).proc).c:=h;have hw0:((w.note 4 (w.pc i).proc).pc i).waiting=true:=by rw [bh (w:=w.note 4 (w.pc i).proc) hi];exact hl.1
 obtain ⟨k1,k2,k3,k4,_⟩:=b9 hc0 hi hw0;have hi2:i<(ai (w.note 4 (w.pc i).proc) i).c.procs.length:=by rw [k3.len];exact hi
 have hrun:((ai (w.note 4 (w.pc i).proc) i).pc i).waiting=false:=by rw [bh hi2];simp [k4]
 obtain ⟨n1,n2,n3⟩:=eL k1 hi2 hrun;obtain ⟨q1,_,q3,q4,q5,q6,_,q8⟩:=ir n1;have k2':ct (ai (w.note 4 (w.pc i).proc) i).c.procs+1=ct w.c.procs:=k2;have hk:=(k3.trans n2).trans (⟨q6,q4,q3,q8⟩:Kp _ (bw (aZ (ai (w.note 4 (w.pc i).proc) i) i)));exact UX
def Fe:List Ho->List Ho->List Ho
 | l,[]=>l
 | l,h :: m=>Fe (cw l h.proc h.am) m
def MT (r:Rs):List Ho->List Ho->Prop
 | _,[]=>True
 | l,h :: m=>bq r h.am (ah l h.proc)=true/\MT r (cw l h.proc h.am) m
theorem popQ_holds (q:Qu) (x:Wt):(g9 q x).holds=cw q.holds x.proc x.am:=by
 unfold g9;cases q.convs <;> rfl
theorem MU {q:Qu} (h:Sd q) {x:Wt} (hx:dD q=some x):bq q.res x.am (ah q.holds x.proc)=true:=by
 obtain ⟨res,hs,cs,ws,gen⟩:=q;unfold dD at hx;cases cs with
 | cons c l =>
  injection hx with hx;subst hx;exact (h.cok c (by simp)).cov
 | nil =>
  cases ws with
  | nil=>cases hx
  | cons c l =>
   have hx':some c=some x:=hx;injection hx' with hx';subst hx';obtain ⟨_,k1,k2⟩:=h.wok c (by simp);show bq res c.am (ah hs c.proc)=true;have k2':ah hs c.proc=⟨0,0⟩:=k2;have k1':aS res c.am=true:=k1;have p0:bQ res ⟨0,0⟩=true:=by unfold bQ aR;rw [show br res=true from h.hv.shp];rfl
   rw [k2'];unfold bq;rw [dw k1',p0];rfl
theorem zb:∀(n:Nat) (q:Qu) (acc:List Ho),Sd q->∃m,(eO n q acc).2=acc++m/\(eO n q acc).1.holds=Fe q.holds m/\MT q.res q.holds m
 | 0,q,acc,_=>⟨[],by simp [eO],rfl,trivial⟩
 | n+1,q,acc,h=>by
  unfold eO;cases hx:dD q with
  | none=>exact ⟨[],by simp,rfl,trivial⟩
  | some x =>
   dsimp only;cases hr:gO q.res q.holds x.proc x.am with
   | false=>exact ⟨[],by simp,rfl,trivial⟩
   | true =>
    rw [qCt];obtain ⟨m,k1,k2,k3⟩:=zb n (g9 q x) (acc++[⟨x.proc,x.am⟩]) (h.pop hx hr);rw [popQ_holds] at k2 k3;rw [(DP q x).2] at k3;exact ⟨⟨x.proc,x.am⟩ :: m,by rw [k1];simp,k2,MU h hx,k3⟩
theorem zc {q:Qu} (h:Sd q):(dB q).1.holds=Fe q.holds (dB q).2/\MT q.res q.holds (dB q).2:=by
 obtain ⟨m,k1,k2,k3⟩:=zb (fQ q) q [] h;have e:(dB q).2=m:=by
  show (eO (fQ q) q []).2=m;rw [k1,List.nil_append]
 rw [e];exact ⟨k2,k3⟩
structure Tells (r:Rs) (l l':List Ho) (m:List Ho):Prop where
 eq:l'=Fe l m
 ok:MT r l m
theorem Tells.none (r:Rs) (l:List Ho):Tells r l l []:=⟨rfl,trivial⟩
theorem ls {q:Qu} (h:Sd q):Tells q.res q.holds (dB q).1.holds (dB q).2:=⟨(zc h).1,(zc h).2⟩
theorem CS {q:Qu} {p:Pr} {a:Am} {prio:Int} (h:(bL q p a prio).2.2=0):Tells q.res q.holds (bL q p a prio).1.holds (bL q p a prio).2.1:=by
 unfold bL at h ⊢;cases hS:ay q with
 | false=>rw [hS] at h;simp [bR] at h
 | true =>
  have hd:=aP hS;rw [hS] at h;simp only [Bool.not_true,qCf] at h ⊢;cases hA:jW p && decide (0<=prio) && decide (prio<=7) with
  | false=>rw [hA] at h;simp [bR] at h
  | true =>
   rw [hA] at h;simp only [Bool.not_true,qCf] at h ⊢;simp only [qBa,decide_eq_true_eq] at hA;cases hF:aS q.res a with
   | false=>rw [hF] at h;simp [bR] at h
   | true =>
    rw [hF] at h;simp only [Bool.not_true,qCf] at h ⊢;cases hW:aj q p with
    | some b=>rw [hW] at h;simp [bR] at h
    | none =>
     rw [hW] at h;simp only [Option.isSome_none,qCf] at h ⊢;cases hC:bq q.res (ah q.holds p) a with
     | true=>exact Tells.none _ _
     | false =>
      rw [hC] at h;simp only [qCf] at h ⊢;cases hZ:aR (ah q.holds p) with
      | false =>
       simp only [Bool.not_false,qCt];exact ls (hd.cons (bN.1 hZ) hW hF hC)
      | true =>
       rw [hZ] at h;simp only [Bool.not_true,qCf] at h ⊢;by_cases hl:8<=q.holds.length+q.waits.length
       ·rw [qDt hl] at h;simp [bR] at h
       ·rw [qDf hl] at h ⊢;simp only [qCf] at h ⊢;obtain ⟨e1,hv⟩:=nZ hd hW hF hA.1.1 ⟨hA.1.2,hA.2⟩ (by omega);rw [e1];simp only [decide_true,Bool.not_true,qCf];have hz:ah q.holds p=⟨0,0⟩:=of_decide_eq_true hZ;exact ls (hd.ins hz hW hF hv (by omega))
theorem Ak {q:Qu} {p:Pr} (h:(bB q p).2.2=0):Tells q.res q.holds (bB q p).1.holds (bB q p).2.1:=by
 unfold bB at h ⊢;cases hS:ay q with
 | false=>rw [hS] at h;simp [bR] at h
 | true =>
  have hd:=aP hS;rw [hS] at h;simp only [Bool.not_true,qCf] at h ⊢;cases hW:(aj q p).isSome with
  | false=>rw [hW] at h;simp [bR] at h
  | true =>
   simp only [Bool.not_true,qCf];exact ls (hd.drop p)
theorem CT {q:Qu} {p:Pr} {a:Am} (h:(bE q p a).2.2=0):Tells q.res (bif decide (ah q.holds p=a) then q.holds else cw q.holds p a) (bE q p a).1.holds (bE q p a).2.1:=by
 unfold bE at h ⊢;cases hS:ay q with
 | false=>rw [hS] at h;simp [bR] at h
 | true =>
  have hd:=aP hS;rw [hS] at h;simp only [Bool.not_true,qCf] at h ⊢;cases hZ:aR (ah q.holds p) with
  | true=>rw [hZ] at h;simp [bR] at h
  | false =>
   rw [hZ] at h;simp only [qCf] at h ⊢;cases hW:aj q p with
   | some b=>rw [hW] at h;simp [bR] at h
   | none =>
    rw [hW] at h;simp only [Option.isSome_none,qCf] at h ⊢;cases hC:bq q.res (ah q.holds p) a with
    | false=>rw [hC] at h;simp [bR] at h
    | true =>
     simp only [Bool.not_true,qCf];cases hE:decide (ah q.holds p=a) with
     | true=>exact Tells.none _ _
     | false =>
      simp only [qCf];exact ls (hd.lower hW (bN.1 hZ) hC)
theorem Al {q:Qu} {p:Pr} (h:(aU q p).2.2=0):Tells q.res (cw q.holds p ⟨0,0⟩) (aU q p).1.holds (aU q p).2.1:=by
 unfold aU at h ⊢;cases hS:ay q with
 | false=>rw [hS] at h;simp [bR] at h
 | true =>
  have hd:=aP hS;rw [hS] at h;simp only [Bool.not_true,qCf] at h ⊢;cases hH:fd q p with
  | false=>rw [hH] at h;simp [bR] at h
  | true =>
   simp only [Bool.not_true,qCf];exact ls (hd.gone p)
def c8 (f:ByteArray->List Ho) (e:Ev):ByteArray->List Ho:=fun n=>bif (decide (e.kind=1) || decide (e.kind=3)) && bC e.name n then cw (f n) e.proc e.am else f n
def eR:(ByteArray->List Ho)->List Ev->ByteArray->List Ho
 | f,[]=>f
 | f,e :: m=>eR (c8 f e) m
def po (t:List Qu):(ByteArray->List Ho)->List Ev->Prop
 | _,[]=>True
 | f,e :: m=>(e.kind=1\/e.kind=3->bd t e.name=true)/\(e.kind=1->bq (bf t e.name).res e.am (ah (f e.name) e.proc)=true)/\po t (c8 f e) m
theorem om:∀(a b:List Ev) (f:ByteArray->List Ho),eR f (a++b)=eR (eR f a) b
 | [],_,_=>rfl
 | e :: a,b,f=>om a b (c8 f e)
theorem zd (t:List Qu):∀(a b:List Ev) (f:ByteArray->List Ho),po t f (a++b)↔po t f a/\po t (eR f a) b
 | [],b,f=>by simp [po,eR]
 | e :: a,b,f=>by
  show (_/\_/\po t (c8 f e) (a++b))↔(_/\_/\po t (c8 f e) a)/\po t (eR (c8 f e) a) b;rw [zd t a b];constructor
  ·rintro ⟨h1,h2,h3,h4⟩;exact ⟨⟨h1,h2,h3⟩,h4⟩
  ·rintro ⟨⟨h1,h2,h3⟩,h4⟩;exact ⟨h1,h2,h3,h4⟩
theorem Ff (n:ByteArray):∀(m:List Ev) (f g:ByteArray->List Ho),f n=g n->eR f m n=eR g m n
 | [],_,_,h=>h
 | e :: m,f,g,h=>Ff n m _ _ (by unfold c8;rw [h])
structure ET (t t':List Qu) (ev:List Ev):Prop where
 nm:ef t'=ef t
 rs:∀n,bd t n=true->(bf t' n).res=(bf t n).res
 ok:po t (fun n=>(bf t n).holds) ev
 eq:∀n,bd t n=true->eR (fun n=>(bf t n).holds) ev n=(bf t' n).holds
theorem ET.refl (t:List Qu):ET t t []:=⟨rfl,fun _ _=>rfl,trivial,fun _ _=>rfl⟩
theorem IL {t t':List Qu} (hn:ef t'=ef t) (hr:∀n,bd t n=true->(bf t' n).res=(bf t n).res):∀(m:List Ev) (f g:ByteArray->List Ho),(∀n,bd t n=true->f n=g n)->po t' g m->po t f m
 | [],_,_,_,_=>trivial
 | e :: m,f,g,hfg,h=>by
  obtain ⟨h1,h2,h3⟩:=h;refine ⟨fun hk=>?_,fun hk=>?_,IL hn hr m _ _ (fun n hh=>by unfold c8;rw [hfg n hh]) h3⟩
  ·have:=h1 hk;rw [(eo hn _).1] at this;exact this
  ·have h4:=h1 (.inl hk);rw [(eo hn _).1] at h4;have h5:=h2 hk;rw [hr _ h4] at h5;rw [hfg _ h4];exact h5
theorem ET.trans {a b c:List Qu} {e1 e2:List Ev} (h:ET a b e1) (k:ET b c e2):ET a c (e1++e2):=by
 have hb:∀n,bd a n=true->bd b n=true:=fun n hn=>by rw [(eo h.nm n).1];exact hn
 refine ⟨k.nm.trans h.nm,fun n hn=>(k.rs n (hb n hn)).trans (h.rs n hn),?_,fun n hn=>?_⟩
 ·rw [zd];exact ⟨h.ok,IL h.nm h.rs e2 _ _ (fun n hn=>h.eq n hn) k.ok⟩
 ·rw [om,Ff n e2 _ (fun n=>(bf b n).holds) (h.eq n hn)];exact k.eq n (hb n hn)
theorem ET.more {a b:List Qu} {ev:List Ev} (h:ET a b ev) {e:Ev} (h1:e.kind≠1) (h3:e.kind≠3):ET a b (ev++[e]):=by
 have k:ET b b [e]:=⟨rfl,fun _ _=>rfl,⟨fun hk=>by rcases hk with hk|hk;exact absurd hk h1;exact absurd hk h3,fun hk=>absurd hk h1,trivial⟩,fun n _=>by
  show c8 (fun n=>(bf b n).holds) e n=(bf b n).holds;unfold c8;rw [qDf h1,qDf h3];rfl⟩
 exact h.trans k
theorem iR {t:List Qu} {n:ByteArray} (hn:bd t n=true):∀(m:List Ho) (f:ByteArray->List Ho),MT (bf t n).res (f n) m->po t f (aJ n m)/\eR f (aJ n m) n=Fe (f n) m/\∀k,k≠n->eR f (aJ n m) k=f k
 | [],f,_=>⟨trivial,rfl,fun _ _=>rfl⟩
 | h :: m,f,hg=>by
  obtain ⟨g1,g2⟩:=hg;have e1:c8 f ⟨1,h.proc,n,h.am⟩ n=cw (f n) h.proc h.am:=by
   unfold c8;rw [bj.2 rfl];rfl
  have e2:∀k,k≠n->c8 f ⟨1,h.proc,n,h.am⟩ k=f k:=fun k hk=>by
   unfold c8;rw [cd.2 (fun e=>hk e.symm),Bool.and_false];rfl
  obtain ⟨k1,k2,k3⟩:=iR hn m (c8 f ⟨1,h.proc,n,h.am⟩) (by rw [e1];exact g2);refine ⟨⟨fun _=>hn,fun _=>g1,k1⟩,?_,fun k hk=>?_⟩
  ·show eR (c8 f ⟨1,h.proc,n,h.am⟩) (aJ n m) n=_;rw [k2,e1];rfl
  ·show eR (c8 f ⟨1,h.proc,n,h.am⟩) (aJ n m) k=_;rw [k3 k hk,e2 k hk]
theorem IM {t:List Qu} {n:ByteArray} {q':Qu} (hn:bd t n=true) (hr:q'.res=(bf t n).res):ef (t.set (gR t n) q')=ef t/\bf (t.set (gR t n) q') n=q'/\∀m,bd t m=true->m≠n->bf (t.set (gR t n) q') m=bf t m:=by
 obtain ⟨i,hi,e1,e2,e3⟩:=j6 hn;have hnm:ef (t.set (gR t n) q')=ef t:=by
  unfold ef;rw [List.map_set,e1];apply List.ext_getElem
  ·simp
  ·intro j h1 h2;rw [List.getElem_set];split
   ·next e=>subst e;simp [hr,e3]
   ·rfl
 refine ⟨hnm,xt hn hnm,fun m hm hmn=>?_⟩;obtain ⟨j,hj,f1,f2,f3⟩:=j6 hm;have hij:i≠j:=fun e=>by subst e;exact hmn (f2.symm.trans e2)
 rw [f3];unfold bf;rw [(eo hnm m).2,f1,e1];simp [hj,List.getElem_set_ne hij]
theorem ze {t:List Qu} {n:ByteArray} {q':Qu} {m:List Ho} (hn:bd t n=true) (hr:q'.res=(bf t n).res) (h:Tells (bf t n).res (bf t n).holds q'.holds m):ET t (t.set (gR t n) q') (aJ n m):=by
 obtain ⟨s1,s2,s3⟩:=IM hn hr;obtain ⟨g1,g2,g3⟩:=iR hn m (fun n=>(bf t n).holds) h.ok;refine ⟨s1,fun k hk=>?_,g1,fun k hk=>?_⟩
 ·by_cases e:k=n
  ·subst e;rw [s2,hr]
  ·rw [s3 k hk e]
 ·by_cases e:k=n
  ·subst e;rw [s2,g2,h.eq]
  ·rw [s3 k hk e,g3 k e]
theorem O3 {t:List Qu} {n:ByteArray} {q':Qu} {m:List Ho} {p:Pr} {a:Am} (hn:bd t n=true) (hr:q'.res=(bf t n).res) (h:Tells (bf t n).res (cw (bf t n).holds p a) q'.holds m):ET t (t.set (gR t n) q') (⟨3,p,n,a⟩ :: aJ n m):=by
 obtain ⟨s1,s2,s3⟩:=IM hn hr;have e1:c8 (fun n=>(bf t n).holds) ⟨3,p,n,a⟩ n=cw (bf t n).holds p a:=by
  unfold c8;rw [bj.2 rfl];rfl
 have e2:∀k,k≠n->c8 (fun n=>(bf t n).holds) ⟨3,p,n,a⟩ k=(bf t k).holds:=fun k hk=>by
  unfold c8;rw [cd.2 (fun e=>hk e.symm),Bool.and_false];rfl
 obtain ⟨g1,g2,g3⟩:=iR hn m (c8 (fun n=>(bf t n).holds) ⟨3,p,n,a⟩) (by rw [e1];exact h.ok);refine ⟨s1,fun k hk=>?_,⟨fun _=>hn,fun hk=>absurd hk (by show ¬((3:Int)=1);decide),g1⟩,fun k hk=>?_⟩
 ·by_cases e:k=n
  ·subst e;rw [s2,hr]
  ·rw [s3 k hk e]
 ·show eR (c8 _ _) (aJ n m) k=_;by_cases e:k=n
  ·subst e;rw [s2,g2,e1,h.eq]
  ·rw [s3 k hk e,g3 k e,e2 k e]
theorem Kg {t:List Qu} {p:Pr} {a:Tm} {prio:Int} (h:(bt t p a prio).2.2=0):ET t (bt t p a prio).1 (bt t p a prio).2.1:=by
 unfold bt at h ⊢;cases h1 : !di t with
 | true=>rw [h1] at h;simp [dE] at h
 | false =>
  rw [h1] at h;simp only [qCf] at h ⊢;by_cases h2:bG a.name 0 t<0
  ·rw [qDt h2] at h;simp [dE] at h
  ·rw [qDf h2] at h ⊢;simp only [qCf] at h ⊢;cases h3:decide ((aO t).length=8) && !decide (p∈aO t) with
   | true=>rw [h3] at h;simp [dE] at h
   | false =>
    rw [h3] at h;simp only [qCf] at h ⊢;by_cases h4:(bL (t.getD (gR t a.name) jj) p a.am prio).2.2=0
    ·rw [qDt h4];exact ze (qDt (by omega)) (yp h4).res (CS h4)
    ·rw [qDf h4] at h;exact absurd h h4
theorem GL {t:List Qu} {p:Pr} {n:ByteArray} (h:(bv t p n).2.2=0):ET t (bv t p n).1 (bv t p n).2.1:=by
 unfold bv at h ⊢;cases h1 : !di t with
 | true=>rw [h1] at h;simp [dE] at h
 | false =>
  rw [h1] at h;simp only [qCf] at h ⊢;by_cases h2:bG n 0 t<0
  ·rw [qDt h2] at h;simp [dE] at h
  ·rw [qDf h2] at h ⊢;simp only [qCf] at h ⊢;by_cases h4:(bB (t.getD (gR t n) jj) p).2.2=0
   ·rw [qDt h4];exact ze (qDt (by omega)) (vb h4).res (Ak h4)
   ·rw [qDf h4] at h;exact absurd h h4
theorem Kh {t:List Qu} {p:Pr} {a:Tm} (h:(bD t p a).2.2=0):ET t (bD t p a).1 (bD t p a).2.1:=by
 unfold bD at h ⊢;cases h1 : !di t with
 | true=>rw [h1] at h;simp [dE] at h
 | false =>
  rw [h1] at h;simp only [qCf] at h ⊢;by_cases h2:bG a.name 0 t<0
  ·rw [qDt h2] at h;simp [dE] at h
  ·rw [qDf h2] at h ⊢;simp only [qCf] at h ⊢;by_cases h4:(bE (t.getD (gR t a.name) jj) p a.am).2.2=0
   ·rw [qDt h4];have hn:bd t a.name=true:=qDt (by omega);have ht:=CT h4;cases h5:decide (ah (t.getD (gR t a.name) jj).holds p=a.am) with
    | true =>
     rw [h5,qCt] at ht;exact ze hn (oS h4).res ht
    | false =>
     rw [h5,qCf] at ht;exact O3 hn (oS h4).res ht
   ·rw [qDf h4] at h;exact absurd h h4
theorem j8 {t:List Qu} {p:Pr}:∀(l:List Qu) (f:ByteArray->List Ho),(∀q∈l,ay q=true/\bd t q.res.name=true/\bf t q.res.name=q/\f q.res.name=q.holds)->(ef l).Nodup->
  po t f (aM p l).2/\(∀q∈l,eR f (aM p l).2 q.res.name=(mz p q).holds)/\∀k,(∀q∈l,q.res.name≠k)->eR f (aM p l).2 k=f k
 | [],f,_,_=>⟨trivial,fun q hq=>absurd hq (by simp),fun _ _=>rfl⟩
 | q :: l,f,h,hnd=>by
  obtain ⟨hs,hn,hq,hf⟩:=h q (by simp);have hnd':(q.res.name :: ef l).Nodup:=hnd;rw [List.nodup_cons] at hnd';have hne:∀x∈l,x.res.name≠q.res.name:=fun x hx e=>hnd'.1 (e▸List.mem_map.2 ⟨x,hx,rfl⟩);have e:aM p (q :: l)=bif !fd q p then (q :: (aM p l).1,(aM p l).2) else
   ((aU q p).1 :: (aM p l).1,(bif aR (ah q.holds p) then [] else [⟨3,p,q.res.name,⟨0,0⟩⟩])++aJ (aU q p).1.res.name (aU q p).2.1++(aM p l).2):=rfl
  rw [e];cases hh:fd q p with
  | false =>
   simp only [Bool.not_false,qCt];obtain ⟨k1,k2,k3⟩:=j8 l f (fun x hx=>h x (by simp [hx])) hnd'.2;refine ⟨k1,fun x hx=>?_,fun k hk=>k3 k fun x hx=>hk x (by simp [hx])⟩;rcases List.mem_cons.1 hx with rfl|hx
   ·rw [k3 _ hne,hf];unfold mz;rw [hh];rfl
   ·exact k2 x hx
  | true =>
   simp only [Bool.not_true,qCf];have h0:(aU q p).2.2=0:=by
    unfold aU;rw [hs,hh];rfl
   have ht:=Al h0;have hr:(aU q p).1.res=q.res:=(vc h0).res;rw [hr];obtain ⟨g1,g2,g3⟩:po t f ((bif aR (ah q.holds p) then [] else [⟨3,p,q.res.name,⟨0,0⟩⟩])++aJ q.res.name (aU q p).2.1)/\eR f ((bif aR (ah q.holds p) then [] else [⟨3,p,q.res.name,⟨0,0⟩⟩])++aJ q.res.name (aU q p).2.1) q.res.name=(aU q p).1.holds/\∀k,k≠q.res.name->eR f ((bif aR (ah q.holds p) then [] else [⟨3,p,q.res.name,⟨0,0⟩⟩])++aJ q.res.name (aU q p).2.1) k=f k:=by
    cases hz:aR (ah q.holds p) with
    | true =>
     have hsd:=aP hs;have e0:cw q.holds p ⟨0,0⟩=q.holds:=by
      rw [AM];refine DL fun x hx e9=>?_;have h8:=jM hsd.hv.asc hx;have h7:=eW (hsd.hv.fit x hx).2;rw [<-h8,e9,hz] at h7;cases h7
     rw [e0] at ht;obtain ⟨a1,a2,a3⟩:=iR hn (aU q p).2.1 f (by rw [hf,hq];exact ht.ok);refine ⟨a1,?_,a3⟩;show eR f (aJ q.res.name (aU q p).2.1) q.res.name=_;rw [a2,hf,ht.eq]
    | false =>
     have e1:c8 f ⟨3,p,q.res.name,⟨0,0⟩⟩ q.res.name=cw q.holds p ⟨0,0⟩:=by
      unfold c8;rw [bj.2 rfl,hf];rfl
     obtain ⟨a1,a2,a3⟩:=iR hn (aU q p).2.1 (c8 f ⟨3,p,q.res.name,⟨0,0⟩⟩) (by rw [e1,hq];exact ht.ok);refine ⟨⟨fun _=>hn,fun hk=>absurd hk (by show ¬((3:Int)=1);decide),a1⟩,?_,fun k hk=>?_⟩
     ·show eR (c8 f _) (aJ q.res.name (aU q p).2.1) q.res.name=_;rw [a2,e1,ht.eq]
     ·show eR (c8 f _) (aJ q.res.name (aU q p).2.1) k=_;rw [a3 k hk];unfold c8;rw [cd.2 (fun e=>hk e.symm),Bool.and_false];rfl
   generalize (bif aR (ah q.holds p) then [] else [(⟨3,p,q.res.name,⟨0,0⟩⟩:Ev)])++aJ q.res.name (aU q p).2.1=ev at *
   obtain ⟨k1,k2,k3⟩:=j8 (t:=t) (p:=p) l (eR f ev) (fun x hx=>by
    obtain ⟨x1,x2,x3,x4⟩:=h x (by simp [hx]);exact ⟨x1,x2,x3,by rw [g3 _ (hne x hx),x4]⟩) hnd'.2
   refine ⟨(zd _ _ _ _).2 ⟨g1,k1⟩,fun x hx=>?_,fun k hk=>?_⟩
   ·rw [om];rcases List.mem_cons.1 hx with rfl|hx
    ·rw [k3 _ hne,g2];unfold mz;rw [hh];rfl
    ·exact k2 x hx
   ·rw [om,k3 k fun x hx=>hk x (by simp [hx]),g3 k fun e=>hk q (by simp) e.symm]
theorem GM {t:List Qu} {p:Pr} (hv:di t=true):ET t (bS t p).1 (bS t p).2:=by
 have e:bS t p=aM p t:=by unfold bS;rw [hv];rfl
 obtain ⟨htp,_⟩:=sE hv p;obtain ⟨k1,k2,_⟩:=j8 (t:=t) (p:=p) t (fun n=>(bf t n).holds) (fun q hq=>by
  obtain ⟨h1,h2⟩:=gY hv hq;exact ⟨cP hv hq,h1,h2,by rw [h2]⟩) (mZ hv)
 rw [e] at htp ⊢;refine ⟨htp.nm,fun n hn=>?_,k1,fun n hn=>?_⟩
 ·obtain ⟨i,hi,e1,e2,e3⟩:=j6 hn;have e4:bf (aM p t).1 n=mz p (bf t n):=by
   unfold bf;rw [(eo htp.nm n).2,e1,jR];simp [hi]
  rw [e4];exact (l9 (cP hv (dK hn).1)).1.res
 ·obtain ⟨i,hi,e1,e2,e3⟩:=j6 hn;have e4:bf (aM p t).1 n=mz p (bf t n):=by
   unfold bf;rw [(eo htp.nm n).2,e1,jR];simp [hi]
  obtain ⟨hm,hnm⟩:=dK hn;have:=k2 _ hm;rw [hnm] at this;rw [this,e4]
structure RW (w w':Wk):Prop where
 nil:w.c.queues=[]->w'.c.queues=[]
 et:∃m,w'.ev=w.ev++m/\((w'.c.queues=[]/\w.c.queues≠[])\/ET w.c.queues w'.c.queues m)
theorem RW.refl (w:Wk):RW w w:=⟨id,[],by simp,.inr (ET.refl _)⟩
theorem RW.same {w w':Wk} (h:w'.ev=w.ev) (hq:w'.c.queues=w.c.queues):RW w w':=⟨fun e=>by rw [hq,e],[],by simp [h],.inr (by rw [hq];exact ET.refl _)⟩
theorem RW.trans {a b c:Wk} (h:RW a b) (k:RW b c):RW a c:=by
 obtain ⟨h1,m,h2,h3⟩:=h;obtain ⟨k1,m',k2,k3⟩:=k;refine ⟨fun e=>k1 (h1 e),m++m',by rw [k2,h2,List.append_assoc],?_⟩;rcases k3 with k3|k3
 ·exact .inl ⟨k3.1,fun e=>k3.2 (h1 e)⟩
 ·rcases h3 with h3|h3
  ·exact .inl ⟨k1 h3.1,h3.2⟩
  ·exact .inr (h3.trans k3)
theorem RW.ite {w a b:Wk} {c:Bool} (ha:RW w a) (hb:RW w b):RW w (bif c then a else b):=by
 cases c
 ·exact hb
 ·exact ha
theorem RW.note {w:Wk} {k:Int} {p:Pr} (h1:k≠1) (h3:k≠3):RW w (w.note k p):=⟨id,_,rfl,.inr (by
 have:=(ET.refl w.c.queues).more (e:=⟨k,p,⟨#[]⟩,⟨0,0⟩⟩) h1 h3;exact this)⟩
theorem RW.op {w:Wk} {r:List Qu×List Ev×Int} (h0:r.2.2=0->ET w.c.queues r.1 r.2.1) (h1:r.2.2≠0->r.1=[]/\r.2.1=[]):RW w (w.take r.1 r.2.1):=by
 by_cases e:r.2.2=0
 ·refine ⟨fun hq=>?_,r.2.1,rfl,.inr (h0 e)⟩;have:=(h0 e).nm;rw [hq] at this;exact List.map_eq_nil_iff.1 this
 ·obtain ⟨e1,e2⟩:=h1 e;refine ⟨fun _=>e1,r.2.1,rfl,?_⟩;by_cases hq:w.c.queues=[]
  ·right
   show ET w.c.queues r.1 r.2.1;rw [hq,e1,e2];exact ET.refl _
  ·exact .inl ⟨e1,hq⟩
theorem GN {t:List Qu} {p:Pr} {a:Tm} {prio:Int} (h:(bt t p a prio).2.2≠0):(bt t p a prio).1=[]/\(bt t p a prio).2.1=[]:=by
 unfold bt at h ⊢;cases h1 : !di t with
 | true=>exact ⟨rfl,rfl⟩
 | false =>
  rw [h1] at h;simp only [qCf] at h ⊢;cases h2:decide (bG a.name 0 t<0) with
  | true=>exact ⟨rfl,rfl⟩
  | false =>
   rw [h2] at h;simp only [qCf] at h ⊢;cases h3:decide ((aO t).length=8) && !decide (p∈aO t) with
   | true=>exact ⟨rfl,rfl⟩
   | false =>
    rw [h3] at h;simp only [qCf] at h ⊢;cases h4 : !decide ((bL (t.getD (gR t a.name) jj) p a.am prio).2.2=0) with
    | true=>exact ⟨rfl,rfl⟩
    | false=>rw [h4] at h;exact absurd rfl h
theorem Fg {t:List Qu} {p:Pr} {n:ByteArray} (h:(bv t p n).2.2≠0):(bv t p n).1=[]/\(bv t p n).2.1=[]:=by
 unfold bv at h ⊢;cases h1 : !di t with
 | true=>exact ⟨rfl,rfl⟩
 | false =>
  rw [h1] at h;simp only [qCf] at h ⊢;cases h2:decide (bG n 0 t<0) with
  | true=>exact ⟨rfl,rfl⟩
  | false =>
   rw [h2] at h;simp only [qCf] at h ⊢;cases h4 : !decide ((bB (t.getD (gR t n) jj) p).2.2=0) with
   | true=>exact ⟨rfl,rfl⟩
   | false=>rw [h4] at h;exact absurd rfl h
theorem GO {t:List Qu} {p:Pr} {a:Tm} (h:(bD t p a).2.2≠0):(bD t p a).1=[]/\(bD t p a).2.1=[]:=by
 unfold bD at h ⊢;cases h1 : !di t with
 | true=>exact ⟨rfl,rfl⟩
 | false =>
  rw [h1] at h;simp only [qCf] at h ⊢;cases h2:decide (bG a.name 0 t<0) with
  | true=>exact ⟨rfl,rfl⟩
  | false =>
   rw [h2] at h;simp only [qCf] at h ⊢;cases h4 : !decide ((bE (t.getD (gR t a.name) jj) p a.am).2.2=0) with
   | true=>exact ⟨rfl,rfl⟩
   | false=>rw [h4] at h;exact absurd rfl h
theorem GP (w:Wk) (p:Pr) (n:ByteArray):RW w (fv w p n):=RW.op (r:=bv w.c.queues p n) (fun h=>GL h) Fg
theorem Bx (w:Wk) (p:Pr) (a:Tm):RW w (dI w p a):=RW.op (r:=bD w.c.queues p a) (fun h=>Kh h) GO
theorem Fh (w:Wk) (p:Pr) (n:ByteArray) (l:Am):RW w (bZ w p n l):=.ite (.refl _) (Bx _ _ _)
theorem Fi (w:Wk) (x:Pc) (n:ByteArray):RW w (bH w x n):=RW.trans (b:=eT w x.proc n) (.ite (GP _ _ _) (.refl _)) (Fh _ _ _ _)
theorem By (x:Pc):∀(l:List Tm) (w:Wk),RW w (cS x l w)
 | [],w=>.refl w
 | a :: l,w=>(Fi w x a.name).trans (By x l _)
theorem mj (w:Wk) (i:Nat):RW w (ai w i):=(By (w.pc i) (bJ (w.pc i).req.expr) w).trans (.same rfl rfl)
theorem O4 (w:Wk) (i:Nat) (p:Pr) (n:ByteArray):RW w (gy w i p n):=.ite (.refl _) (.same rfl rfl)
theorem Fj (x:Pc) (i:Nat):∀(l:List Tm) (bs:List Bool) (w:Wk),RW w (bO x i l bs w)
 | [],_,w=>by rw [bO];exact .refl w;simp
 | a :: l,[],w=>by rw [bO];exact .refl w;simp
 | a :: l,b :: bs,w=>by
  rw [bO];exact (RW.ite (O4 _ _ _ _) (Fi _ _ _)).trans (Fj x i l bs _)
theorem O5 (w:Wk) (i:Nat):RW w (eJ w i) :=
 RW.trans (RW.note (k:=2) (p:=(w.pc i).proc) (by decide) (by decide)) ((Fj (w.pc i) i _ _ _).trans (.same rfl rfl))
theorem zf:∀(n:Nat) (w:Wk),RW w (aK n w)
 | 0,w=>.refl w
 | n+1,w=>by
  unfold aK;cases dF w.c.queues 0 w.c.procs with
  | none=>exact .refl w
  | some i=>exact (O5 w i).trans (zf n _)
theorem iy (w:Wk):RW w (bw w):=zf _ w
theorem nG (w:Wk) (i:Nat):RW w (aZ w i):=.same rfl rfl
theorem CU (w:Wk) (i:Nat) (x:Pc):RW w (w.setP i x):=.same rfl rfl
theorem zg (p:Pr) (prio:Int):∀(l:List Tm) (w:Wk),RW w (cO p prio l w)
 | [],w=>.refl w
 | a :: l,w=>(RW.op (r:=bt w.c.queues p a prio) (fun h=>Kg h) GN).trans (zg p prio l _)
theorem zh (p:Pr):∀(l:List Tm) (w:Wk),RW w (bU p l w)
 | [],w=>.refl w
 | a :: l,w=>(Fh w p a.name a.am).trans (zh p l _)
theorem MV (w:Wk) (i:Nat):RW w (i5 w i) :=
 (RW.note (k:=4) (p:=(w.pc i).proc) (by decide) (by decide)).trans ((mj _ i).trans ((nG _ i).trans (iy _)))
theorem Fk:∀(n:Nat) (w:Wk),RW w (cI n w)
 | 0,w=>.refl w
 | n+1,w=>by
  rw [d5];exact RW.ite (.refl w) ((MV w _).trans (Fk n _))
theorem Fl (w:Wk) (i:Nat) (r:Rq):RW w (bX w i r).1:=by
 unfold bX;cases (w.pc i).waiting with
 | true=>exact .refl w
 | false =>
  cases !m6 r with
  | true=>exact .refl w
  | false =>
   cases !decide (fW w.c.queues r.expr=0) with
   | true=>exact .refl w
   | false=>exact (CU w i _).trans ((nG _ i).trans ((zg _ _ _ _).trans (iy _)))
theorem Fm (w:Wk) (i:Nat) (n:ByteArray):RW w (dG w i n).1:=by
 unfold dG;cases (w.pc i).waiting with
 | true=>exact .refl w
 | false =>
  cases decide (aC (w.pc i).led.entries n=⟨0,0⟩) with
  | true=>exact .refl w
  | false=>exact (Bx w _ _).trans ((CU _ i _).trans ((nG _ i).trans (iy _)))
theorem CV (w:Wk) (i:Nat) (n:Int):RW w (cu w i n).1:=by
 unfold cu;cases !decide ((cQ (w.pc i).led n).2.2=0) with
 | true=>exact .refl w
 | false=>exact (RW.ite (c:=(w.pc i).waiting) (mj w i) (.refl w)).trans ((CU _ i _).trans ((zh _ _ _).trans ((nG _ i).trans (iy _))))
theorem MW {w:Wk} (hv:di w.c.queues=true) (i:Nat):RW w (gT w i):=by
 have h1:RW w ⟨{ w.c with queues:=(bS w.c.queues (w.pc i).proc).1,procs:=w.c.procs.eraseIdx i },w.ev++(bS w.c.queues (w.pc i).proc).2⟩:=by
  have he:=GM (p:=(w.pc i).proc) hv;refine ⟨fun hq=>?_,_,rfl,.inr he⟩;have:=he.nm;rw [hq] at this;show (bS w.c.queues (w.pc i).proc).1=[];rw [hq];exact List.map_eq_nil_iff.1 this
 exact h1.trans ((RW.note (k:=5) (p:=(w.pc i).proc) (by decide) (by decide)).trans (iy _))
theorem Re {c:Cs} {k:Cm} (hv:di c.queues=true):RW ⟨c,[]⟩ (g8 ⟨c,[]⟩ k).1:=by
 unfold g8;cases !(decide (1<=k.kind) && decide (k.kind<=9)) with
 | true=>exact .refl _
 | false =>
  cases decide (k.kind=1) with
  | true =>
   show RW _ (iZ ⟨c,[]⟩ k.proc k.n).1;unfold iZ;cases !(jW k.proc && decide (1<=k.n) && decide (k.n<=1000)) with
   | true=>exact .refl _
   | false =>
    cases decide (0<=bM k.proc 0 (Wk.mk c []).c.procs) with
    | true=>exact .refl _
    | false =>
     cases decide ((Wk.mk c []).c.procs.length=8) with
     | true=>exact .refl _
     | false=>exact .same rfl rfl
  | false =>
   cases decide (k.kind=9) with
   | true =>
    show RW _ (gi ⟨c,[]⟩ k.n).1;unfold gi;cases !(decide (0<=k.n) && decide (k.n<=1000)) with
    | true=>exact .refl _
    | false =>
     cases decide (1073741824-k.n<(Wk.mk c []).c.now) with
     | true=>exact .refl _
     | false=>exact RW.trans (b:=⟨{ c with now:=c.now+k.n },[]⟩) (.same rfl rfl) (Fk _ _)
   | false =>
    cases decide (bM k.proc 0 (Wk.mk c []).c.procs<0) with
    | true=>exact .refl _
    | false =>
     cases decide (k.kind=2) with
     | true=>exact Fl _ _ _
     | false =>
      cases decide (k.kind=3) with
      | true =>
       cases hw : !(Wk.pc ⟨c,[]⟩ (bM k.proc 0 (Wk.mk c []).c.procs).toNat).waiting with
       | true=>simp only [qCt,qCf,hw];exact .refl _
       | false=>simp only [qCt,qCf,hw];exact (mj _ _).trans ((nG _ _).trans (iy _))
      | false =>
       cases decide (k.kind=4) with
       | true=>exact Fm _ _ _
       | false =>
        cases decide (k.kind=5) with
        | true =>
         cases hw:(Wk.pc ⟨c,[]⟩ (bM k.proc 0 (Wk.mk c []).c.procs).toNat).waiting with
         | true=>simp only [qCt,qCf,hw];exact .refl _
         | false =>
          simp only [qCt,qCf,hw];cases hs : !decide ((da (Wk.pc ⟨c,[]⟩ (bM k.proc 0 (Wk.mk c []).c.procs).toNat).led k.n).2=0) with
          | true=>simp only [qCt];exact .refl _
          | false=>simp only [qCf];exact .same rfl rfl
        | false =>
         cases decide (k.kind=6) with
         | true=>exact CV _ _ _
         | false =>
          cases hw:decide (k.kind=8) && (Wk.pc ⟨c,[]⟩ (bM k.proc 0 (Wk.mk c []).c.procs).toNat).waiting with
          | true=>simp only [qCt,qCf,hw];exact .refl _
          | false=>simp only [qCt,qCf,hw];exact MW hv _
theorem PW {c:Cs} {k:Cm} (h:cG c=true) (he:(g8 ⟨c,[]⟩ k).2=0):ef (g8 ⟨c,[]⟩ k).1.c.queues=ef c.queues:=by
 obtain ⟨hci,hun⟩:=aV.1 h;unfold g8 at he ⊢;cases hA:decide (1<=k.kind) && decide (k.kind<=9) with
 | false=>rw [hA] at he;simp at he
 | true =>
  rw [hA] at he;simp only [Bool.not_true,qCf] at he ⊢;by_cases h1:k.kind=1
  ·exact VE
  ·rw [qDf h1] at he ⊢;simp only [qCf] at he ⊢;by_cases h9:k.kind=9
   ·rw [qDt h9] at he ⊢;simp only [qCt] at he ⊢;unfold gi at he ⊢;cases hB:decide (0<=k.n) && decide (k.n<=1000) with
    | false=>rw [hB] at he;simp at he
    | true =>
     rw [hB] at he;simp only [Bool.not_true,qCf] at he ⊢;simp only [qBa,decide_eq_true_eq] at hB;by_cases hm:1073741824-k.n<c.now
     ·exact Wj
     ·rw [qDf hm];simp only [qCf];have gen:∀(n:Nat) (w:Wk),CI w.c->ef (cI n w).c.queues=ef w.c.queues:=by
       intro n;induction n with
       | zero=>intro w _;rfl
       | succ n ih =>
        intro w hw;rw [d5];by_cases he:cA w<0
        ·rw [qDt he];rfl
        ·exact Vn
      exact Vi
   ·rw [qDf h9] at he ⊢;simp only [qCf] at he ⊢;by_cases hI:bM k.proc 0 c.procs<0
    ·exact VG
    ·rw [qDf hI] at he ⊢;simp only [qCf] at he ⊢;obtain ⟨i,hi,e,hip⟩:=c7 (p:=k.proc) (l:=c.procs) (k:=0) (by omega);have ei:(bM k.proc 0 c.procs).toNat=i:=by rw [e];omega
     rw [ei] at he ⊢;by_cases h2:k.kind=2
     ·exact Vq
     ·rw [qDf h2] at he ⊢;simp only [qCf] at he ⊢;by_cases h3:k.kind=3
      ·rw [qDt h3] at he ⊢;simp only [qCt] at he ⊢;cases hw:(Wk.pc ⟨c,[]⟩ i).waiting with
       | false=>rw [hw] at he;simp at he
       | true =>
        simp only [Bool.not_true,qCf];obtain ⟨k1,_,k3,k4,_⟩:=b9 (w:=⟨c,[]⟩) hci hi hw;have hi2:i<(ai ⟨c,[]⟩ i).c.procs.length:=by rw [k3.len];exact hi
        obtain ⟨n1,n2,_⟩:=eL k1 hi2 (by rw [bh hi2];simp [k4]);obtain ⟨_,_,q3⟩:=gE n1;exact ((k3.trans n2).trans q3).nm
      ·rw [qDf h3] at he ⊢;simp only [qCf] at he ⊢;by_cases h4:k.kind=4
       ·exact Vt
       ·rw [qDf h4] at he ⊢;simp only [qCf] at he ⊢;by_cases h5:k.kind=5
        ·rw [qDt h5] at he ⊢;simp only [qCt] at he ⊢;rcases Bool.eq_false_or_eq_true (Wk.pc ⟨c,[]⟩ i).waiting with hw|hw
         ·rw [cT hw] at he;simp at he
         ·rw [cF hw] at he ⊢;cases hs : !decide ((da (Wk.pc ⟨c,[]⟩ i).led k.n).2=0) with
          | true=>rfl
          | false=>rfl
        ·rw [qDf h5] at he ⊢;simp only [qCf] at he ⊢;by_cases h6:k.kind=6
         ·exact Vu
         ·rw [qDf h6] at he ⊢;simp only [qCf] at he ⊢;cases h8:decide (k.kind=8) && (Wk.pc ⟨c,[]⟩ i).waiting with
          | true=>rw [h8] at he;simp at he
          | false =>
           exact VL
theorem CW {c:Cs} {k:Cm} (he:(cy c k).2.2=0):ET c.queues (cy c k).1.queues (cy c k).2.1:=by
 obtain ⟨hc,h0⟩:=iQ he;have hci:=(aV.1 hc).1;obtain ⟨_,m,h2,h3⟩:=Re (k:=k) hci.tv;have hn:=PW hc h0;rw [mi hc h0];have h2':(g8 ⟨c,[]⟩ k).1.ev=m:=by rw [h2];rfl
 show ET c.queues (g8 ⟨c,[]⟩ k).1.c.queues (g8 ⟨c,[]⟩ k).1.ev;rw [h2'];rcases h3 with ⟨h3,h4⟩|h3
 ·rw [h3] at hn;exact absurd (List.map_eq_nil_iff.1 hn.symm) h4
 ·exact h3
theorem C6 {r:Rs} (h:iB r=true):ay (gI r)=true:=by
 have hs:br r=true:=by unfold iB at h;simp only [qBa] at h;exact h.1.1.2
 unfold ay jt gI;simp only [h,Bool.true_and];have h1:zX r []=true:=by unfold zX;rw [hs];simp [xJ,iX,js,hs,fm]
 rw [h1];rfl
theorem G6 {l:List Rs} (h:CatOk l):gu (l.map gI)=true:=by
 have key:∀(m:List Rs) (o:Option ByteArray),(∀x∈m,iB x=true)->(∀i (h:i+1<m.length),jN (m[i]'(by omega)).name m[i+1].name=true)->(∀n,o=some n->∀x,m.head? = some x->jN n x.name=true)->mN o (m.map gI)=true:=by
  intro m;induction m with
  | nil=>intro _ _ _ _;rfl
  | cons x m ih =>
   intro o h1 h2 h3;rw [List.map_cons,eM,C6 (h1 x (by simp))];have e:Hf o (gI x).res.name=true:=by
    cases o with
    | none=>rfl
    | some n=>exact h3 n rfl x rfl
   rw [e];refine ih _ (fun y hy=>h1 y (by simp [hy])) (fun i hi=>?_) fun n hn y hy=>?_
   ·have:=h2 (i+1) (by simpa using hi);simpa using this
   ·cases m with
    | nil=>cases hy
    | cons z m =>
     have:=h2 0 (by simp);exact UR
 exact Vd
theorem BE:eu []=[]:=by
 apply List.eq_nil_iff_forall_not_mem.2
 intro x hx;rw [dd] at hx;cases hx
theorem Kv (l:List Rs):lC (l.map gI)=[]:=by
 induction l with
 | nil=>rfl
 | cons x l ih=>show eu []++lC (l.map gI)=[];rw [ih,BE];rfl
theorem G7 {l:List Rs} (h:CatOk l):di (l.map gI)=true/\aO (l.map gI)=[]:=by
 have e:aO (l.map gI)=[]:=by unfold aO;rw [Kv,BE]
 exact VI
theorem Fx {l:List Rs} (h:CatOk l):cG ⟨0,l.map gI,[]⟩=true:=by
 obtain ⟨h1,h2⟩:=G7 h;exact V3
theorem Ng {c:Cs} {k:Cm} (he:(cy c k).2.2=0):(cy c k).1.queues.length=c.queues.length:=by
 obtain ⟨hc,h0⟩:=iQ he;have h:=congrArg List.length (PW hc h0);rw [mi hc h0];unfold ef at h
 rwa [List.length_map,List.length_map] at h
theorem Nh (c:Cs) (k:Cm) (l:List Cm):pi c (k :: l)=pi (bif decide ((cy c k).2.2=0) then (cy c k).1 else c) l:=rfl
theorem Fy:∀(l:List Cm) (c:Cs),(pi c l).queues.length=c.queues.length
 | [],_=>rfl
 | k :: l,c=>by
  rw [Nh,Fy l];by_cases he:(cy c k).2.2=0
  ·rw [qDt he,qCt];exact Ng he
  ·rw [qDf he,qCf]
section
variable {P:Program} {o:Oper} {s:Mst}
theorem cZ {t t':TypeId} {x y:Operand} {la:List D} {a:List Value} {sh:List Nat} [I:EQR P t sh] (ho:o.op = .binOp .neq t x y t') (hx:s.ev x = .v (.ag la)) (hy:s.ev y = .v (.ag la)) (ha:scs la=some a) (h1:a.map shp=sh):LOp P o s [] ⟨.b false,[],[]⟩ :=
 bY fun cx st ρ ac w hr hc _=>by
  have he:=hc x (by simp [ho,Op.operands]);have he2:=hc y (by simp [ho,Op.operands]);exact UP
theorem c5 {t t':TypeId} {x y:Operand} {la:List D} {a:List Value} {sh:List Nat} [I:EQR P t sh] (ho:o.op = .binOp .eql t x y t') (hx:s.ev x = .v (.ag la)) (hy:s.ev y = .v (.ag la)) (ha:scs la=some a) (h1:a.map shp=sh):LOp P o s [] ⟨.b true,[],[]⟩ :=
 bY fun cx st ρ ac w hr hc _=>by
  have he:=hc x (by simp [ho,Op.operands]);have he2:=hc y (by simp [ho,Op.operands]);exact UQ
end
theorem I1 (L:List Ho):FSpec prog 26 [.one (.sl gM L),.one (.sl gM L)] [] [] (.b true) []:=by
 refine a7 func26 ?_;refine aY (fun c ρ a w hr=>bV (t:=0) hr rfl) (fun hl0=>?_);repeat' (first|refine av ?_ ?_|(refine aa 10 rfl ?_;first|refine sx (cZ rfl rfl rfl rfl rfl) ?_|refine sx (c5 rfl rfl rfl rfl rfl) ?_)|refine aq ?_|exact aw|(refine ap fun hb=>?_;first|(exact absurd rfl hb)|skip))
 refine ab (fun i=>i<=L.length) (fun i=>bP [] [(0,.c (.sl gM L)),(1,.c (.sl gM L)),(5,.i i)] []) (fun i=>L.length-i) 0 (Nat.zero_le _) aT ?_;intro i hi;by_cases hlt:i<L.length
 ·obtain ⟨o,ho⟩:∃o,L[i]? = some o:=⟨_,qGg hlt⟩;repeat' (first|refine av ?_ ?_|(refine aa 10 rfl ?_;first|refine sx (cZ rfl rfl rfl rfl rfl) ?_|refine sx (c5 rfl rfl rfl rfl rfl) ?_)|refine aq ?_|exact aw|(refine ap fun hb=>?_;first|(exact absurd rfl hb)|skip))
  exact UZ
 ·exact UG
theorem Kw (c:Cs) (k:Cm) (l:List Cm):pi c (k :: l)=pi (bif decide ((cy c k).2.2=0) then (cy c k).1 else c) l:=rfl
theorem Tf (c:Cs) (ks:List Cm) {W:Cs} (hW:pi c ks=W):FSpec prog 55 [c.a 2,.one (.sl (Pk 2) ks)] [] [] (.v (W.a 2)) []:=by
 refine a7 func55 ?_;refine aY (fun c ρ a w hr=>bV (t:=1) hr rfl) (fun hl1=>?_);refine ao ?_;refine ab (fun y:Nat×Cs=>y.1<=ks.length/\pi y.2 (ks.drop y.1)=W) (fun y=>bP [2,4] [(1,.c (.sl (Pk 2) ks)),(2,.c (.ptr 2 0)),(4,.c (.ptr 4 0)),(5,.i y.1)] [(2,.box 32 (y.2.d 2)),(4,.box 32 [.sc (.int .i64 0),.sc (.slice none 0 0),.sc (.slice none 0 0)])]) (fun y=>ks.length-y.1) (0,c) ⟨Nat.zero_le _,hW⟩ aT ?_;clear hW c;rintro ⟨i,c⟩ ⟨hi,hs⟩;dsimp only at *
 by_cases hlt:i<ks.length
 ·obtain ⟨k,hk⟩:∃k,ks[i]? = some k:=⟨_,qGg hlt⟩;have ek:=qGs hk;rw [qDc hlt,ek,Kw] at hs;obtain ⟨R,hR⟩:=qGe (cy c k);have kD:=Ur 2 c k hR;rw [hR] at hs;by_cases h0:R.2.2=0
  ·exact UU
  ·exact UV
 ·exact Vm
def i6 (l:List Int):Cs:=pi ⟨0,(fb l).1.map gI,[]⟩ (fb l).2
theorem jr (l:List Int) (hl:l.length<=300) (hc:CatOk (fb l).1) {W:Cs} (hW:i6 l=W):FSpec prog 19 [.one (.sl km l)] [] [] (.v (W.a 2)) []:=by
 exact UL
theorem gB (l:List Int):cG (i6 l)=true:=Cx (fb l).2 _ (Fx (jV l))
theorem qX (l:List Int):(0<(bI (i6 l).queues).length/\(bI (i6 l).queues).length<=8)/\∀r∈bI (i6 l).queues,1<=r.units/\r.units<=1000:=by
 have hv:=(aV.1 (gB l)).1;have h8:=(bi hv.tv).1;have h6:=(IZ (t:=⟨l,0⟩) rfl).1;have hL:(i6 l).queues.length=6:=by
  exact Vs
 exact UO
set_option maxRecDepth 100000
set_option maxHeartbeats 64000000
theorem gH {w:Wk} (h:CI w.c) {n:Nat} (he:w.ev.length<=n):(bw w).ev.length<=n+2248:=by
 have:=sJ h;show (aK w.c.procs.length w).ev.length<=_;omega
theorem BF:∀(n:Nat) (w:Wk),CI w.c->(cI n w).ev.length<=w.ev.length+2600*n
 | 0,w,_=>by show w.ev.length<=_;omega
 | n+1,w,h=>by
  unfold cI;by_cases h0:cA w<0
  ·rw [qDt h0,qCt];omega
  ·rw [qDf h0,qCf];obtain ⟨hi,hl1,_⟩:=(gF w).2 (by omega);generalize (cA w).toNat=i at *
   have hw0:((w.note 4 (w.pc i).proc).pc i).waiting=true:=by
    have hp0:(w.note 4 (w.pc i).proc).pc i=w.pc i:=rfl;rw [hp0,bh hi];exact hl1
   obtain ⟨k1,_,k3,k4,_⟩:=b9 (w:=w.note 4 (w.pc i).proc) h hi hw0;have hev:=dM (w.note 4 (w.pc i).proc) i;rw [g6] at hev;have hi2:i<(ai (w.note 4 (w.pc i).proc) i).c.procs.length:=by rw [k3.len];exact hi
   have hrun:((ai (w.note 4 (w.pc i).proc) i).pc i).waiting=false:=by rw [bh hi2];simp [k4]
   obtain ⟨n1,_,_⟩:=eL k1 hi2 hrun;have he2:(aZ (ai (w.note 4 (w.pc i).proc) i) i).ev.length<=w.ev.length+281:=by
    show (ai (w.note 4 (w.pc i).proc) i).ev.length<=_;omega
   have h1:=gH n1 he2;have h2:=BF n _ (ir n1).1;omega
theorem Pu {c:Cs} {k:Cm} (h:cG c=true):(g8 ⟨c,[]⟩ k).1.ev.length<=100000:=by
 obtain ⟨hci,hun⟩:=aV.1 h;unfold g8;cases hA:decide (1<=k.kind) && decide (k.kind<=9) with
 | false=>exact Nat.zero_le _
 | true =>
  simp only [Bool.not_true,qCf];by_cases h1:k.kind=1
  ·rw [qDt h1,qCt];unfold iZ;cases !(jW k.proc && decide (1<=k.n) && decide (k.n<=1000)) <;> cases decide (0<=bM k.proc 0 (Wk.mk c []).c.procs) <;> cases decide ((Wk.mk c []).c.procs.length=8) <;> exact Nat.zero_le _
  rw [qDf h1,qCf];by_cases h9:k.kind=9
  ·rw [qDt h9,qCt];unfold gi;cases hB:decide (0<=k.n) && decide (k.n<=1000) with
   | false=>exact Nat.zero_le _
   | true =>
    simp only [Bool.not_true,qCf];simp only [qBa,decide_eq_true_eq] at hB;by_cases hm:1073741824-k.n<c.now
    ·rw [qDt hm,qCt];exact VV
    ·exact US
  rw [qDf h9,qCf];by_cases hI:bM k.proc 0 c.procs<0
  ·rw [qDt hI,qCt];exact VV
  rw [qDf hI,qCf];obtain ⟨i,hi,e,_⟩:=c7 (p:=k.proc) (l:=c.procs) (k:=0) (by omega);have ei:(bM k.proc 0 c.procs).toNat=i:=by rw [e];omega
  rw [ei];clear ei e hI;have h8:=hci.len;by_cases h2:k.kind=2
  ·rw [qDt h2,qCt];unfold bX;cases hw:(Wk.pc ⟨c,[]⟩ i).waiting with
   | true=>exact Nat.zero_le _
   | false =>
    cases hq:m6 k.req with
    | false=>exact Nat.zero_le _
    | true =>
     by_cases hr:fW c.queues k.req.expr=0
     ·exact UK
     ·rw [qDf hr];exact VV
  rw [qDf h2,qCf];by_cases h3:k.kind=3
  ·rw [qDt h3,qCt];cases hw:(Wk.pc ⟨c,[]⟩ i).waiting with
   | false=>exact Nat.zero_le _
   | true =>
    obtain ⟨k1,_,k3,k4,_⟩:=b9 (w:=⟨c,[]⟩) hci hi hw;have hi2:i<(ai ⟨c,[]⟩ i).c.procs.length:=by rw [k3.len];exact hi
    obtain ⟨n1,_,_⟩:=eL k1 hi2 (by rw [bh hi2];simp [k4]);have hev:=dM ⟨c,[]⟩ i;have e0:([]:List Ev).length=0:=rfl;exact Vg
  rw [qDf h3,qCf];by_cases h4:k.kind=4
  ·rw [qDt h4,qCt];unfold dG;cases hw:(Wk.pc ⟨c,[]⟩ i).waiting with
   | true=>exact Nat.zero_le _
   | false =>
    by_cases hl:aC (Wk.pc ⟨c,[]⟩ i).led.entries k.name=⟨0,0⟩
    ·rw [qDt hl];exact VV
    ·rw [qDf hl];have hm:=(jQ (w:=⟨c,[]⟩) hci hi hw hl).1;have hL:=fH c.queues (Wk.pc ⟨c,[]⟩ i).proc ⟨k.name,⟨0,0⟩⟩;have:=gH (n:=18) hm (by
      show ((Wk.mk c []).take (bD c.queues (Wk.pc ⟨c,[]⟩ i).proc ⟨k.name,⟨0,0⟩⟩).1 (bD c.queues (Wk.pc ⟨c,[]⟩ i).proc ⟨k.name,⟨0,0⟩⟩).2.1).ev.length<=_;rw [jS];have e0:(Wk.mk c []).ev.length=0:=rfl;omega)
     show (bw (qd ⟨c,[]⟩ i k.name)).ev.length<=_;omega
  rw [qDf h4,qCf];by_cases h5:k.kind=5
  ·rw [qDt h5,qCt];cases (Wk.pc ⟨c,[]⟩ i).waiting <;> cases decide ((da (Wk.pc ⟨c,[]⟩ i).led k.n).2=0) <;> exact Nat.zero_le _
  rw [qDf h5,qCf];by_cases h6:k.kind=6
  ·rw [qDt h6,qCt];unfold cu;by_cases hu:(cQ (Wk.pc ⟨c,[]⟩ i).led k.n).2.2=0
   ·rw [qDt hu];have hm:=(je (w:=⟨c,[]⟩) hci hi hu).2.1;have hA:(jI ⟨c,[]⟩ i).ev.length<=280:=by
     unfold jI;cases (Wk.pc ⟨c,[]⟩ i).waiting with
     | false=>exact Nat.zero_le _
     | true=>exact dM ⟨c,[]⟩ i
    have hinv:=hci.inv _ (List.getElem_mem hi);exact UN
   ·rw [qDf hu];exact VV
  rw [qDf h6,qCf];cases h8':decide (k.kind=8) && (Wk.pc ⟨c,[]⟩ i).waiting with
  | true=>exact Nat.zero_le _
  | false =>
   have hr:=nE c.queues (Wk.pc ⟨c,[]⟩ i).proc;have:=gH (n:=1001) (qg (w:=⟨c,[]⟩) hci hi) (by
    unfold J0;rw [g6];simp only [List.length_append,List.length_nil];omega)
   show (bw (J0 ⟨c,[]⟩ i)).ev.length<=_;omega
theorem xD {c:Cs} {k:Cm} (he:(cy c k).2.2=0):(cy c k).2.1.length<=100000:=by
 obtain ⟨hc,h0⟩:=iQ he;rw [mi hc h0];exact Pu hc
theorem I4 (d:Nat) (c:Cs) (hl:c.queues.length<=100000):FSpec prog 21 [c.a d] [] [] (.c (.sl dQ (bI c.queues))) []:=by
 refine a7 func21 ?_;refine ao ?_;refine cj 3 1000 63 dQ rfl rfl rfl ?_;refine ab (fun i=>i<=c.queues.length) (fun i=>bP [1,1000] [(1,.c (.ptr 1 0)),(3,.c (.own 1000)),(4,.i i)] [(1,.box 32 (c.d d)),(1000,.arr 63 dQ (bI (c.queues.take i)))]) (fun i=>c.queues.length-i) 0 (Nat.zero_le _) aT ?_;intro i hi;have hlen:(bI (c.queues.take i)).length=i:=by simp [bI,Nat.min_eq_left hi]
 repeat' (first|refine av ?_ ?_|(refine aa 8 rfl ?_;refine be (ae rfl rfl (aH rfl rfl) (aN [(c.queues[i]'(by omega)).res] rfl rfl rfl rfl) rfl aQ aQ) rfl rfl rfl ?_)|refine aq ?_|exact aw|refine ap fun hb=>?_)
 ·refine ⟨i+1,by omega,by omega,?_⟩;have e:bI (c.queues.take (i+1))=bI (c.queues.take i)++[(c.queues[i]'(by omega)).res]:=by
   unfold bI;exact Va
  rw [e];exact bo (qf [(1000,20)])
 ·have e:bI (c.queues.take i)=bI c.queues:=by rw [List.take_of_length_le (by omega)]
  rw [<-e];exact U4
section
variable {P:Program} {o:Oper} {s:Mst}
theorem FH {t e e':TypeId} {x y:Operand} {i k q:Nat} {α:Type} {E:El α} {L L':List (List α)} {m:List α} [I:TI P t false 1] (ho:o.op = .store t x y) (hx:s.ev x = .c (.optr k 1 i 0)) (hk:s.h k=some (.arr e (El.sl E) L)) (hy:s.ev y = .c (.own q)) (hq:s.h q=some (.arr e' E m)) (hi:i<L.length) (hne:Nat.beq k q=false) (hl':L.set i m=L'):LOp P o s [k,q] ⟨.c .any,[(k,some (.arr e (El.sl E) L')),(q,none)],[]⟩:=by
 intro c st ρ a w hr h1 h2 _ h4;subst hl';have he:=h1 x (by simp [ho,Op.operands]);have he2:=h1 y (by simp [ho,Op.operands]);rw [hx] at he;rw [hy] at he2;have hv:=hr.ev x;rw [he] at hv;obtain ⟨g,len,cap,hg,hv⟩:=hv;have hk':=(h2 k (by simp [aX])).trans hk;have hq':=(h2 q (by simp [aX])).trans hq;have hnkq:k≠q:=fun e=>by subst e;rw [Nat.beq_refl] at hne;cases hne
 obtain ⟨xs,hown,hreps⟩:=hr.hp k _ hk';rw [hg] at hown;obtain rfl:len=L.length:=by
  rcases hown.2 with ⟨hv,_⟩|⟨g',cap',cur,hv,_⟩
  ·cases hv
  ·injection hv
 have hkb:kb (ρ k)=some g:=by rw [hg];rfl
 have hvy:=hr.ev y;rw [he2] at hvy;obtain ⟨HS,hHS⟩:∃HS,HS=[(k,some (Box.arr e (El.sl E) (L.set i m))),(q,none)]:=⟨_,rfl⟩;have hput':∀j bx,hput HS st.h j=some bx->j≠q/\∃b0,st.h j=some b0:=fun j bx hj=>by
  rw [hHS] at hj;simp only [hput] at hj;cases h9:k.beq j with
  | true =>
   obtain rfl:=qNb h9;exact ⟨hnkq,⟨_,hk'⟩⟩
  | false =>
   rw [h9] at hj;cases h8:q.beq j with
   | true=>rw [h8] at hj;cases hj
   | false =>
    rw [h8] at hj;exact ⟨fun e=>(by subst e;rw [Nat.beq_refl] at h8;cases h8),_,hj⟩
 have hF:∀b,Fz c st.h ρ w b->Fz c (hput HS st.h) ρ w b:=fun b ⟨f1,f2,f3⟩=>⟨f1,f2,fun j bx hj=>by
  obtain ⟨_,b0,h0⟩:=hput' j bx hj;exact f3 j b0 h0⟩
 have hO:∀j bx g',aX [q] j=true->st.h j=some bx->kb (ρ j)=some g'->Fz c (hput HS st.h) ρ w g':=fun j bx g' hj hb hg'=>by
  refine ⟨(hr.inb j bx g' hb hg').imp (c.hX g') id,hr.ltb hb hg',fun j' bx' hj' he=>?_⟩;obtain ⟨hn,b0,h0⟩:=hput' j' bx' hj';have:=hr.dis j j' bx b0 g' hb h0 hg' he;subst this;simp only [aX,Bool.or_false] at hj;exact hn (qNb hj).symm
 have hsl:(D.sl E m).rep w (Fz c (hput HS st.h) ρ w) ρ (a.eval y):=(DR.own (h:=s.h) (R:=[q]) (by simp [aX]) hq).rep hr (fun j hj=>h2 j (by simp only [aX,Bool.or_false] at hj ⊢;rw [hj];simp)) hF hO hvy;obtain ⟨A,cp,hA,hcp,hrow0⟩:=hsl;obtain ⟨V,hV⟩:∃V,V=Value.slice A m.length cp:=⟨_,rfl⟩;rw [<-hV] at hA;have hcells:(a.eval y).cells.toList=[V]:=by rw [hA,hV];rfl
 have hxl:=hown.1;have hn1:(El.sl E).n=1:=rfl;rw [hn1] at hown hxl;have hst:=run_storeCells_cells (P:=P) g (i*1+0) [V] 0 w (fun j hj=>by have:=(fg hown (j:=i*1+0+j) (by simp at hj ⊢;omega)).1;simpa using this) (fun j hj=>by have:=(fg hown (j:=i*1+0+j) (by simp at hj ⊢;omega)).2;simpa using this) (fun u hu=>by simp at hu;subst hu;rw [hV];rfl);simp only [Nat.add_zero] at hst;have hz':(El.sl E).rep w (Fz c (hput HS st.h) ρ w) m [V]:=⟨A,cp,by rw [hV],hcp.1,hcp.2,hrow0⟩;have hrow:=fy [V] (i*1+0) w xs hown (by simp;omega);obtain ⟨cs,hcs1,hcs2⟩:=hreps.get i hi;have hcl:=(El.sl E).len hcs1;have hcs:cs=(xs.drop (i*1)).take 1:=by
  apply List.ext_getElem?
  intro j;rw [List.getElem?_take];by_cases hj:j<1
  ·rw [if_pos hj,List.getElem?_drop];exact (hcs2 j hj).symm
  ·rw [if_neg hj,List.getElem?_eq_none (by rw [hcl];show 1<=j;omega)]
 rw [oM (n:=1) (by omega) hcs (by simp)] at hrow;have hcz:List.take 0 cs++[V]++List.drop (0 + [V].length) cs=[V]:=by rw [qDn (by rw [hcl];exact Nat.le_refl _)];rfl
 rw [hcz] at hrow;have hsize:=cm (g:=g) [V] (i*1+0) w;have hoth:∀b,b≠g->(w.setCells g (i*1+0) [V]).heap[b]? = w.heap[b]?:=fun b hb=>cf [V] _ w b hb;have hbel:=dm (B:=0) (w:=w) (Nat.zero_le g) [V] (i*1+0) w (Below.refl _ _);have hkk:∀j:Nat,aL HS j=true->j=k\/j=q:=fun j h=>by
  rw [hHS] at h;simp only [aL,Bool.or_false,Bool.or_eq_true] at h;rcases h with h|h
  ·exact .inl (qNb h).symm
  ·exact .inr (qNb h).symm
 have hpk:hput HS st.h k=some (.arr e (El.sl E) (L.set i m)):=by rw [hHS];simp [hput]
 have hpq:hput HS st.h q=none:=by rw [hHS];simp only [hput,hne,qCf,Nat.beq_refl,qCt]
 have hfz:∀b,Fz c (hput HS st.h) ρ w b->Fz c (hput HS st.h) ρ (w.setCells g (i*1+0) [V]) b/\(w.setCells g (i*1+0) [V]).heap[b]? = w.heap[b]?:=fun b ⟨f1,f2,f3⟩ =>
  ⟨⟨f1,by rw [hsize];exact f2,f3⟩,hoth b fun e=>f3 k _ hpk (by rw [hkb,e])⟩
 rw [<-hHS];refine Oper.wp_skip (w':=w.setCells g (i*1+0) [V]) ?_ ⟨ρ,hr.app (e:=⟨.c .any,HS,[]⟩) h4 (fun k h=>by simp [aX] at h) (fun _ _=>rfl) (fun j h=>.inr (by rcases hkk j h with rfl|rfl;exact hr.nfh hk';exact hr.nfh hq')) ⟨hbel.os,hbel.tape,hbel.output,hbel.size,fun b hlt hn=>hoth b fun e=>hn ⟨k,_,by rw [hHS];simp [aL],hk',by rw [hkb,e]⟩⟩ ?_ ?_ (fun k h=>by simp [TV.has,V0.has,D.has] at h) ?_ ?_ trivial⟩
 ·unfold execOp;rw [ho];have hi:=I.s;cases hq:P.info? t with
  | none=>simp [hq] at hi
  | some ti =>
   have hs:(a.eval y).cells.size=ti.size:=by
    simp [hq] at hi;rw [<-Array.length_toList,hcells];simp [hi]
   simp only [hv,Instr.storeAt,Instr.sureAddr,Sem.run_bind,Sem.run_pure,Result.andThen_ok];have h3:(storeVar t ⟨g,i*1+0,none⟩ (a.eval y)).run P w = .ok () (w.setCells g (i*1+0) [V]):=by
    simp [storeVar,sizeOf,typeInfo,hq,hs,hcells];simpa using hst
   rw [h3];rfl
 ·intro j bx g' h hj hg';rcases hkk j h with rfl|rfl
  ·rw [hkb] at hg';injection hg' with hg';subst hg';exact ⟨by rw [hsize];exact hr.ltb hk' hkb,.inr ⟨_,_,by rw [hHS];simp [aL],hk',hkb⟩⟩
  ·rw [hpq] at hj;cases hj
 ·intro j1 j2 b1 b2 g' h h' hb1 hb2 _ _;rcases hkk j1 h with rfl|rfl <;> rcases hkk j2 h' with rfl|rfl
  ·rfl
  ·rw [hpq] at hb2;cases hb2
  ·rw [hpq] at hb1;cases hb1
  ·rfl
 ·intro j1 j2 bx h hp hx;rcases hkk j2 h with rfl|rfl
  ·rw [hpk] at hp;injection hp with hp;subst hp;simp [Box.has] at hx
  ·rw [hpq] at hp;cases hp
 ·intro j bx h hp;rcases hkk j h with rfl|rfl
  ·rw [hpk] at hp;injection hp with hp;subst hp;refine ⟨_,by rw [List.length_set,hg];exact hrow,?_⟩;exact ((Reps.set (hreps.same (fun _ _=>rfl) hF) hz' hi)).same (fun b hb=>(hfz b hb).2) fun b hb=>(hfz b hb).1
  ·rw [hpq] at hp;cases hp
end
def KE (t:List Qu) (f:ByteArray->List Ho):List (List Ho):=t.map fun q=>f q.res.name
theorem mn (t:List Qu) (f:ByteArray->List Ho):(KE t f).length=t.length:=List.length_map _
theorem C8 {t:List Qu} {f:ByteArray->List Ho} {i:Nat} (h:i<(KE t f).length) (h':i<t.length):(KE t f)[i]=f t[i].res.name:=List.getElem_map (fun q:Qu=>f q.res.name) (l:=t) (i:=i) (h:=h)
theorem RI {t:List Qu} {f:ByteArray->List Ho} {j:Nat} {q:Qu} (h:t[j]? = some q):(KE t f)[j]? = some (f q.res.name):=by
 unfold KE;rw [List.getElem?_map,h];rfl
theorem Ns {f:ByteArray->List Ho} {e:Ev} (h1:e.kind≠1) (h3:e.kind≠3):c8 f e=f:=by
 funext n
 unfold c8;rw [qDf h1,qDf h3];rfl
theorem Pv {t:List Qu} (hv:di t=true) {f:ByteArray->List Ho} {e:Ev} {j:Nat} {q:Qu} (hj:t[j]? = some q) (hn:q.res.name=e.name) (hk:e.kind=1\/e.kind=3):KE t (c8 f e)=(KE t f).set j (cw (f e.name) e.proc e.am):=by
 have hnd:=mZ hv;obtain ⟨hjl,rfl⟩:=List.getElem?_eq_some_iff.1 hj;have hkk:(decide (e.kind=1) || decide (e.kind=3))=true:=by simpa using hk
 refine List.ext_getElem (by rw [List.length_set,mn,mn]) fun i h1 h2=>?_;rw [mn] at h1;rw [List.getElem_set,C8 _ h1,C8 (by rw [mn];exact h1) h1];unfold c8;rw [hkk,Bool.true_and];by_cases hij:j=i
 ·subst hij;rw [if_pos rfl,<-hn,bj.2 rfl];rfl
 ·rw [if_neg hij];have hne:bC e.name t[i].res.name=false:=by
   rw [Bool.eq_false_iff];intro he;have he':e.name=t[i].res.name:=bj.1 he;have h3:=(List.nodup_iff_pairwise_ne.1 hnd);have h4:=List.pairwise_iff_getElem.1 h3;rcases Nat.lt_or_gt_of_ne hij with hlt|hlt
   ·exact h4 j i (by simpa [ef] using hjl) (by simpa [ef] using h1) hlt (by simp only [ef,List.getElem_map];rw [hn,he'])
   ·exact h4 i j (by simpa [ef] using h1) (by simpa [ef] using hjl) hlt (by simp only [ef,List.getElem_map];rw [hn,he'])
  rw [hne];rfl
theorem Kz {t:List Qu} (hv:di t=true):KE t (fun n=>(bf t n).holds)=t.map (·.holds):=by
 unfold KE;refine List.map_congr_left fun q hq=>?_;show (bf t q.res.name).holds=_;rw [(gY hv hq).2]
theorem Pw {t t':List Qu} (hv:di t=true) (hv':di t'=true) {E:List Ev} (h:ET t t' E) {f:ByteArray->List Ho} (hf:eR (fun n=>(bf t n).holds) E=f):KE t f=t'.map (·.holds):=by
 have hl:t'.length=t.length:=by have:=congrArg List.length h.nm;unfold ef at this;rwa [List.length_map,List.length_map] at this
 refine List.ext_getElem (by rw [mn,List.length_map,hl]) fun i h1 h2=>?_;rw [mn] at h1;rw [C8 _ h1,List.getElem_map,<-hf,h.eq _ (gY hv (List.getElem_mem h1)).1];have e:t'[i].res.name=t[i].res.name:=by
  have h3:(ef t')[i]? = (ef t)[i]?:=by rw [h.nm]
  unfold ef at h3;rw [List.getElem?_map,List.getElem?_map,qGg h1,qGg (by omega)] at h3;simpa using h3
 rw [<-e,(gY hv' (List.getElem_mem (by omega))).2]
theorem UF {α:Type} {B:List α} {i:Nat} {z:α} (hi:i<B.length):(B.take i++List.replicate (B.length-i) z).set i B[i]=B.take (i+1)++List.replicate (B.length-(i+1)) z:=by
 have h1:(B.take i).length=i:=by simp;omega
 exact Vx
theorem Px {t:List Qu} (h:∀q∈t,q.holds.length<=100000) (n:ByteArray):(bf t n).holds.length<=100000:=by
 unfold bf;rw [List.getD_eq_getElem?_getD];cases hh:t[gR t n]? with
 | none=>exact Nat.zero_le _
 | some q=>exact h q (List.mem_of_getElem? hh)
set_option maxRecDepth 100000
set_option maxHeartbeats 64000000
theorem Hc (l more:List Int):FSpec prog 4 [.one (.sl km l),.one (.sl km more)] [] [] (.b true) []:=by
 refine a7 func4 ?_;have kA:=jF;obtain ⟨bl,hbl⟩:∃b,decide (l.length<=300)=b:=⟨_,rfl⟩;have kL:=ka l hbl;obtain ⟨bm,hbm⟩:∃b,decide (more.length<=300)=b:=⟨_,rfl⟩;have kM:=ka more hbm;cases bl with
 | false =>
  exact UG
 | true =>
 cases bm with
 | false =>
  exact Vb
 | true =>
  have hl:=of_decide_eq_true hbl;have hm:=of_decide_eq_true hbm;obtain ⟨c,hW⟩:∃W,i6 l=W:=⟨_,rfl⟩;have kC:=jr l hl (jV l) hW;have hv:cG c=true:=hW▸gB l;obtain ⟨hq,hu⟩:=hW▸qX l;have hcc:=(aV.1 hv).1;have htv:=hcc.tv;have h8:=(bi htv).1;have kQ:=I4 2 c (by omega);obtain ⟨R,hR⟩:=qGe (vG ⟨more,0⟩ (bI c.queues));have kR:=Nc ⟨more,0⟩ (bI c.queues) ⟨Nat.zero_le _,by show more.length<=_;omega⟩ hq hu hR;clear hR hu hW hbl hbm hl hq;obtain ⟨k,t⟩:=R;dsimp only at kR;obtain ⟨D,hD⟩:∃R,cy c k=R:=⟨_,rfl⟩;have kD:=FJ 2 c _ hD;by_cases h0:D.2.2=0
  case neg =>
   obtain ⟨hz,hz2⟩:=CQ (k:=k) (c:=c) (by rw [hD];exact h0);rw [hD] at hz hz2;obtain ⟨X,E,e⟩:=D;dsimp only at *
   subst hz;subst hz2;clear hD hv hcc htv;repeat' (first|refine av ?_ ?_|(refine aa 9 rfl ?_;first|(refine cB [] kL ?_)|(refine cB [] kM ?_)|(refine cC [] kC ?_)|(refine cC [] kQ ?_)|(refine cH (qf [(0,28)]) kR ?_)|(refine cC [] kD ?_)|(refine cB [] kA ?_))|refine aq ?_|exact aw|(refine ap fun hb=>?_;first|(exact absurd hb h0)|skip)|exact bg|fail)
  have h0':(cy c k).2.2=0:=by rw [hD];exact h0
  have hX:=(fI h0').2;have hXl:=Ng h0';have hET:=CW h0';have hEl:=xD h0';rw [hD] at hX hXl hET hEl;clear hD h0' hv;obtain ⟨X,E,e⟩:=D;dsimp only at *
  obtain rfl:e=0:=h0;have hXtv:=(aV.1 hX).1.tv;have hhl:=(To hcc).2.2.1;have hmk:prog.underlying 60=some (.slice 61):=underlying60;have hib:(prog.info? 61).map (fun i=>(i.zero,i.size,i.bytes))=some (some (.slice none 0 0),1,24):=by kernel_rfl
  obtain ⟨H,hH⟩:∃H,H=c.queues.map (·.holds):=⟨_,rfl⟩;have hHl:H.length=c.queues.length:=by rw [hH,List.length_map]
  have hHg:∀i (h:i<c.queues.length),H[i]'(by omega)=c.queues[i].holds:=by
   intro i h;simp only [hH,List.getElem_map]
  clear hX;repeat' (first|refine av ?_ ?_|(refine aa 9 rfl ?_;first|(refine cB [] kL ?_)|(refine cB [] kM ?_)|(refine cC [] kC ?_)|(refine cC [] kQ ?_)|(refine cH (qf [(0,28)]) kR ?_)|(refine cC [] kD ?_))|(refine aa 20 rfl ?_;refine be (fN (E:=El.sl gM) (y0:=[]) hmk hib rfl (by decide) rfl (fun _ _=>⟨none,0,rfl,by simp,by simp [maxLen],RowsAt.nil _ _ _ _⟩) rfl rfl rfl rfl (by omega)) rfl rfl rfl ?_)|refine aq ?_|exact aw|(refine ap fun hb=>?_;first|(exfalso;omega)|skip))
  clear kL kM kC kQ kR kD;refine ab (fun i=>i<=c.queues.length) (fun i=>bP [5,7,1000] [(5,.c (.ptr 5 0)),(7,.c (.ptr 7 0)),(8,.c (.sl fX E)),(10,.c (.own 1000)),(11,.i i)] [(5,.box 32 (c.d 2)),(7,.box 32 (X.d 2)),(1000,.arr 61 (El.sl gM) (H.take i++List.replicate (H.length-i) []))]) (fun i=>c.queues.length-i) 0 (Nat.zero_le _) (by rw [List.take_zero,List.nil_append,Nat.sub_zero,hHl];exact bo (qf [(1000,63)])) ?_;intro i hi;have hol:(H.take i++List.replicate (H.length-i) ([]:List Ho)).length=c.queues.length:=by simp;omega
  by_cases hlt:i<c.queues.length
  ·have hst:=UF (B:=H) (i:=i) (z:=([]:List Ho)) (by omega);rw [hHg i hlt] at hst;have hb1:=hhl _ (List.getElem_mem hlt);clear hHg hET hhl;repeat' (first|refine av ?_ ?_|refine aq ?_|(refine aa 4 rfl ?_;refine Tj (FH rfl rfl rfl rfl rfl (by omega) rfl rfl) ?_)|exact aw|(refine ap fun hb=>?_;first|(exfalso;omega)|skip))
   exact VP
  have e1:H.take i++List.replicate (H.length-i) []=KE c.queues (fun n=>(bf c.queues n).holds):=by
   rw [Kz htv,<-hH,List.take_of_length_le (by omega),show H.length-i=0 by omega];simp
  rw [e1];clear e1 hol hHg;refine ao ?_;obtain ⟨F,hF⟩:∃F,eR (fun n=>(bf c.queues n).holds) E=F:=⟨_,rfl⟩;have hend:=Pw htv hXtv hET hF;have hok:=hET.ok;clear hET hi hlt hH hHl H;refine ab (fun y:Nat×(ByteArray->List Ho)=>y.1<=E.length/\po c.queues y.2 (E.drop y.1)/\eR y.2 (E.drop y.1)=F/\∀n,(y.2 n).length<=100000+y.1) (fun y=>bP [5,7,1000] [(5,.c (.ptr 5 0)),(7,.c (.ptr 7 0)),(8,.c (.sl fX E)),(10,.c (.own 1000)),(12,.i y.1)] [(5,.box 32 (c.d 2)),(7,.box 32 (X.d 2)),(1000,.arr 61 (El.sl gM) (KE c.queues y.2))]) (fun y=>E.length-y.1) (0,fun n=>(bf c.queues n).holds) ⟨Nat.zero_le _,hok,hF,fun n=>Px (fun q hq=>(hhl q hq).1) n⟩ aT ?_;clear hok hF hhl;rintro ⟨i,f⟩ ⟨hi,hok,hF,hfl⟩;dsimp only at *
  have hol:=mn c.queues f;by_cases hlt:i<E.length
  ·obtain ⟨e,he⟩:∃e,E[i]? = some e:=⟨_,qGg hlt⟩;have ee:=qGs he;rw [qDc hlt,ee] at hok hF;obtain ⟨o1,o2,o3⟩:=hok;have hF:eR (c8 f e) (E.drop (i+1))=F:=hF;by_cases hk:e.kind=1\/e.kind=3
   ·have hh:=o1 hk;have hf:¬bG e.name 0 c.queues<0:=by
     intro h;unfold bd at hh;rw [decide_eq_true_eq] at hh;omega
    obtain ⟨j,hj,hFd,hq,hx⟩:=eC hf;have hq:bf c.queues e.name=c.queues[j]:=hq;have hqn:c.queues[j].res.name=e.name:=by rw [<-hq];exact (dK hh).2
    have hgj:c.queues[j]? = some c.queues[j]:=qGg hj;have hset:=Pv htv (f:=f) hgj hqn hk;have hat:=RI (f:=f) hgj;rw [hqn] at hat;have hlen:=hfl e.name;have hstep:∀n,(c8 f e n).length<=100000+(i+1):=fun n=>by
     unfold c8;have:=hfl n;cases (decide (e.kind=1) || decide (e.kind=3)) && bC e.name n with
     | false=>rw [qCf];omega
     | true=>rw [qCt];have:=Dl (f n) e.proc e.am;omega
    have kT:=dy c.queues e.name hFd;have kG:=Ok (f e.name) e.proc;have kC:=dJ c.queues[j].res e.am (ah (f e.name) e.proc);have kS:=JP (f e.name) e.proc e.am (by omega);rw [hq] at o2;clear hfl o1 hf hh hq hx ee;by_cases h1:e.kind=1
    ·rw [o2 h1] at kC;clear o2 hk;repeat' (first|refine av ?_ ?_|(refine aa 9 rfl ?_;first|(refine cB [] kT ?_)|(refine cB [] kG ?_)|(refine cB [] kC ?_)|(refine cC [] kS ?_))|refine aq ?_|(refine aa 4 rfl ?_;refine a8 (ak (z:=cw (f e.name) e.proc e.am) rfl rfl rfl rfl (by first|assumption|exact qGg (by omega)) rfl rfl rfl rfl (qNl rfl) rfl rfl) rfl rfl rfl ?_)|exact aw|(refine ap fun hb=>?_;first|(exact absurd h1 hb)|(exfalso;omega)|skip))
     refine ⟨(i+1,c8 f e),⟨by dsimp only;omega,o3,hF,hstep⟩,by dsimp only;omega,?_⟩;dsimp only;rw [hset];exact aT
    ·have h3:e.kind=3:=hk.resolve_left h1;clear o2 hk;repeat' (first|refine av ?_ ?_|(refine aa 9 rfl ?_;first|(refine cB [] kT ?_)|(refine cC [] kS ?_))|refine aq ?_|(refine aa 4 rfl ?_;refine a8 (ak (z:=cw (f e.name) e.proc e.am) rfl rfl rfl rfl (by first|assumption|exact qGg (by omega)) rfl rfl rfl rfl (qNl rfl) rfl rfl) rfl rfl rfl ?_)|exact aw|(refine ap fun hb=>?_;first|(exact absurd h3 hb)|(exact absurd hb h1)|(exfalso;omega)|skip))
     refine ⟨(i+1,c8 f e),⟨by dsimp only;omega,o3,hF,hstep⟩,by dsimp only;omega,?_⟩;dsimp only;rw [hset];exact aT
   ·have h1:e.kind≠1:=fun h=>hk (.inl h);have h3:e.kind≠3:=fun h=>hk (.inr h);rw [Ns h1 h3] at hF o3;clear hk o1 o2 ee;refine ao ?_;refine ⟨(i+1,f),⟨by dsimp only;omega,o3,hF,fun n=>by have:=hfl n;dsimp only;omega⟩,by dsimp only;omega,?_⟩;exact aT
  ·rw [qDn (by omega)] at hF;obtain rfl:f=F:=hF;rw [hend];clear hend hok hfl hol;refine ao ?_;refine ab (fun i=>i<=X.queues.length) (fun i=>bP [7,1000] [(7,.c (.ptr 7 0)),(10,.c (.own 1000)),(14,.i i)] [(7,.box 32 (X.d 2)),(1000,.arr 61 (El.sl gM) (X.queues.map (·.holds)))]) (fun i=>X.queues.length-i) 0 (Nat.zero_le _) aT ?_;clear hi hlt;intro i hi;have hml:(X.queues.map (·.holds)).length=X.queues.length:=List.length_map _;by_cases hlt:i<X.queues.length
   ·have hg:(X.queues.map (·.holds))[i]? = some X.queues[i].holds:=by rw [List.getElem?_map,qGg hlt];rfl
    have kH:=I1 X.queues[i].holds;refine ao ?_;exact U0
   ·exact UG
end Go.Proofs.YthpgjkjgkhjjlaaGreatDoor
