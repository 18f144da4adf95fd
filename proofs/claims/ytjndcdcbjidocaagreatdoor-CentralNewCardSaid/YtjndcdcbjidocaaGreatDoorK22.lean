/- Part 22 of 35 of the proof of centralNew_holds (no condition). -/
import Derived.Test.YtjndcdcbjidocaaGreatDoorK21
set_option linter.unusedVariables false
set_option linter.unusedSimpArgs false
set_option maxRecDepth 100000
set_option maxHeartbeats 64000000
namespace Go.Proofs.YtjndcdcbjidocaaGreatDoor
open Go.RowKit Go.Proofs.Tryz
def Gj:List Ho→List Ho→List Ho
 | l,[]=>l
 | l,h :: m=>Gj (b9 l h.proc h.am) m
def Jc (r:Rs):List Ho→List Ho→Prop
 | _,[]=>True
 | l,h :: m=>bb r h.am (aq l h.proc)=true∧Jc r (b9 l h.proc h.am) m
structure Tells (r:Rs) (l l':List Ho) (m:List Ho):Prop where
 eq:l'=Gj l m
 ok:Jc r l m
theorem Tells.none (r:Rs) (l:List Ho):Tells r l l []:=⟨rfl,trivial⟩
def lA (f:ByteArray→List Ho) (e:Ev):ByteArray→List Ho:=fun n=>bif (decide (e.kind=1) || decide (e.kind=3)) && aY e.name n then b9 (f n) e.proc e.am else f n
def lB:(ByteArray→List Ho)→List Ev→ByteArray→List Ho
 | f,[]=>f
 | f,e :: m=>lB (lA f e) m
def qR (t:List Qu):(ByteArray→List Ho)→List Ev→Prop
 | _,[]=>True
 | f,e :: m=>(e.kind=1∨e.kind=3→aO t e.name=true)∧(e.kind=1→bb (aX t e.name).res e.am (aq (f e.name) e.proc)=true)∧qR t (lA f e) m
theorem tc:∀(a b:List Ev) (f:ByteArray→List Ho),lB f (a++b)=lB (lB f a) b
 | [],_,_=>rfl
 | e :: a,b,f=>tc a b (lA f e)
theorem wT (t:List Qu):∀(a b:List Ev) (f:ByteArray→List Ho),qR t f (a++b)↔qR t f a∧qR t (lB f a) b
 | [],b,f=>by simp [qR,lB]
 | e :: a,b,f=>by
  show (_∧_∧qR t (lA f e) (a++b))↔(_∧_∧qR t (lA f e) a)∧qR t (lB (lA f e) a) b
  rw [wT t a b]
  constructor
  ·rintro ⟨h1,h2,h3,h4⟩;exact ⟨⟨h1,h2,h3⟩,h4⟩
  ·rintro ⟨⟨h1,h2,h3⟩,h4⟩;exact ⟨h1,h2,h3,h4⟩
theorem wU (n:ByteArray):∀(m:List Ev) (f g:ByteArray→List Ho),f n=g n→lB f m n=lB g m n
 | [],_,_,h=>h
 | e :: m,f,g,h=>wU n m _ _ (by unfold lA;rw [h])
structure ET (t t':List Qu) (ev:List Ev):Prop where
 nm:es t'=es t
 rs:∀n,aO t n=true→(aX t' n).res=(aX t n).res
 ok:qR t (fun n=>(aX t n).holds) ev
 eq:∀n,aO t n=true→lB (fun n=>(aX t n).holds) ev n=(aX t' n).holds
theorem ET.refl (t:List Qu):ET t t []:=⟨rfl,fun _ _=>rfl,trivial,fun _ _=>rfl⟩
theorem zx {t t':List Qu} (hn:es t'=es t) (hr:∀n,aO t n=true→(aX t' n).res=(aX t n).res):∀(m:List Ev) (f g:ByteArray→List Ho),(∀n,aO t n=true→f n=g n)→qR t' g m→qR t f m
 | [],_,_,_,_=>trivial
 | e :: m,f,g,hfg,h=>by
  obtain ⟨h1,h2,h3⟩:=h
  refine ⟨fun hk=>?_,fun hk=>?_,zx hn hr m _ _ (fun n hh=>by unfold lA;rw [hfg n hh]) h3⟩
  ·have:=h1 hk
   rw [(ef hn _).1] at this
   exact this
  ·have h4:=h1 (.inl hk)
   rw [(ef hn _).1] at h4
   have h5:=h2 hk
   rw [hr _ h4] at h5
   rw [hfg _ h4]
   exact h5
theorem ET.trans {a b c:List Qu} {e1 e2:List Ev} (h:ET a b e1) (k:ET b c e2):ET a c (e1++e2):=by
 have hb:∀n,aO a n=true→aO b n=true:=fun n hn=>by rw [(ef h.nm n).1];exact hn
 refine ⟨k.nm.trans h.nm,fun n hn=>(k.rs n (hb n hn)).trans (h.rs n hn),?_,fun n hn=>?_⟩
 ·rw [wT]
  exact ⟨h.ok,zx h.nm h.rs e2 _ _ (fun n hn=>h.eq n hn) k.ok⟩
 ·rw [tc,wU n e2 _ (fun n=>(aX b n).holds) (h.eq n hn)]
  exact k.eq n (hb n hn)
theorem ET.more {a b:List Qu} {ev:List Ev} (h:ET a b ev) {e:Ev} (h1:e.kind≠1) (h3:e.kind≠3):ET a b (ev++[e]):=by
 have k:ET b b [e]:=⟨rfl,fun _ _=>rfl,⟨fun hk=>by rcases hk with hk|hk;exact absurd hk h1;exact absurd hk h3,fun hk=>absurd hk h1,trivial⟩,fun n _=>by
  show lA (fun n=>(aX b n).holds) e n=(aX b n).holds
  unfold lA
  rw [decide_eq_false h1,decide_eq_false h3]
  rfl⟩
 exact h.trans k
structure RW (w w':Wk):Prop where
 nil:w.c.queues=[]→w'.c.queues=[]
 et:∃m,w'.ev=w.ev++m∧((w'.c.queues=[]∧w.c.queues≠[])∨ET w.c.queues w'.c.queues m)
theorem RW.refl (w:Wk):RW w w:=⟨id,[],by simp,.inr (ET.refl _)⟩
theorem RW.same {w w':Wk} (h:w'.ev=w.ev) (hq:w'.c.queues=w.c.queues):RW w w':=⟨fun e=>by rw [hq,e],[],by simp [h],.inr (by rw [hq];exact ET.refl _)⟩
theorem RW.trans {a b c:Wk} (h:RW a b) (k:RW b c):RW a c:=by
 obtain ⟨h1,m,h2,h3⟩:=h
 obtain ⟨k1,m',k2,k3⟩:=k
 refine ⟨fun e=>k1 (h1 e),m++m',by rw [k2,h2,List.append_assoc],?_⟩
 rcases k3 with k3|k3
 ·exact .inl ⟨k3.1,fun e=>k3.2 (h1 e)⟩
 ·rcases h3 with h3|h3
  ·exact .inl ⟨k1 h3.1,h3.2⟩
  ·exact .inr (h3.trans k3)
theorem RW.note {w:Wk} {k:Int} {p:Pr} (h1:k≠1) (h3:k≠3):RW w (w.note k p):=⟨id,_,rfl,.inr (by
 have:=(ET.refl w.c.queues).more (e:=⟨k,p,⟨#[]⟩,⟨0,0⟩⟩) h1 h3
 exact this)⟩
theorem RW.op {w:Wk} {r:List Qu×List Ev×Int} (h0:r.2.2=0→ET w.c.queues r.1 r.2.1) (h1:r.2.2≠0→r.1=[]∧r.2.1=[]):RW w (w.take r.1 r.2.1):=by
 by_cases e:r.2.2=0
 ·refine ⟨fun hq=>?_,r.2.1,rfl,.inr (h0 e)⟩
  have:=(h0 e).nm
  rw [hq] at this
  exact List.map_eq_nil_iff.1 this
 ·obtain ⟨e1,e2⟩:=h1 e
  refine ⟨fun _=>e1,r.2.1,rfl,?_⟩
  by_cases hq:w.c.queues=[]
  ·right
   show ET w.c.queues r.1 r.2.1
   rw [hq,e1,e2]
   exact ET.refl _
  ·exact .inl ⟨e1,hq⟩
def LeB (s s':List Bool):Prop:=∀k,s.getD k false=true→s'.getD k false=true
theorem LeB.tail {s s':List Bool} (h:LeB s s'):LeB s.tail s'.tail:=fun k hk=>by
 have:=h (k+1)
 cases s <;> cases s' <;> simp_all
def SmR (t t':List Qu):Prop:=∀n,aO t n=true→aO t' n=true∧(aX t' n).res=(aX t n).res
theorem SmR.refl (t:List Qu):SmR t t:=fun _ h=>⟨h,rfl⟩
theorem SmR.trans {a b c:List Qu} (h:SmR a b) (k:SmR b c):SmR a c:=fun n hn=>⟨(k n (h n hn).1).1,(k n (h n hn).1).2.trans (h n hn).2⟩
theorem DO {t:List Qu} {p:Pr} {e:Ex} {k:Nat} (hk:k<(cj e).length):(bd t p e).getD k false=(aO t (cj e)[k].name && bb (aX t (cj e)[k].name).res (aq (aX t (cj e)[k].name).holds p) (cj e)[k].am):=by
 unfold bd
 rw [List.getD_eq_getElem?_getD,List.getElem?_map,List.getElem?_eq_getElem hk]
 rfl
theorem Jd {w:Wk} {i:Nat} {x y:Pc} {n:ByteArray} {a:Am} (hv:df w.c.queues=true) (hn:aO w.c.queues n=true) (hl:LedOf w.c.queues x y) (hlh:fZ y n=fZ x n) (ha:aD (aX w.c.queues n).res a=true) (hf:FitA w.c.queues n x a)
  (hc:bb (aX w.c.queues n).res (aq (aX w.c.queues n).holds x.proc) a=true) :
  aq (aX w.c.queues n).holds x.proc=az y.led.entries n∨(fd y.led ⟨n,az y.led.entries n,aq (aX w.c.queues n).holds x.proc⟩).2=0:=by
 rcases hf with ⟨_,h⟩|⟨hc2,⟨h1,h2⟩|⟨h1,h2,_⟩⟩
 ·exact .inl (h.h.trans hlh.symm)
 ·right
  obtain ⟨j1,j2,_,j4⟩:=CG (ku hv hn) ha hc2 (by rw [←hlh];exact jR hl.stat n)
  have hgr:cO (fZ x n) (jn w.c.queues n x a)=true:=wm j1 j2 j4 (by rw [←hlh];exact jR hl.stat n)
  obtain ⟨e1,e2⟩:=sC (g:=y.led) hl.stat.led (e:=⟨n,fZ x n,jn w.c.queues n x a⟩) (yZ hv hn) (by show fZ x n=az y.led.entries n;exact hlh.symm) hgr (ns:=es w.c.queues) (by unfold es;rw [List.length_map];exact (bD hv).1) (sK hl.stat) (by obtain ⟨h3,h4⟩:=dg hn;exact List.mem_map.2 ⟨_,h3,h4⟩)
  rw [h1,show az y.led.entries n=fZ x n from hlh,e1]
 ·rw [h1,hc2] at hc
  cases hc
theorem qS {t:List Qu} {n:ByteArray} (h:aO t n=true):t≠[]:=fun e=>by rw [e] at h;cases h
def wV (x:Pc) (i:Nat):List Tm→List Bool→Wk→Prop
 | a :: l,b :: bs,w=>df w.c.queues=true∧aO w.c.queues a.name=true∧w.ev.length≤800000∧
   (∃y,w.c.procs[i]? = some y∧y.proc=x.proc∧az y.led.entries a.name=az x.led.entries a.name∧(b=true→aq (aX w.c.queues a.name).holds x.proc=az y.led.entries a.name∨(fd y.led ⟨a.name,az y.led.entries a.name,aq (aX w.c.queues a.name).holds x.proc⟩).2=0))∧
   (b=false→(bw w x a.name).c.queues≠[])∧wV x i l bs (bif b then gS w i x.proc a.name else bw w x a.name)
 | _,_,_=>True
theorem uy:∀(l:List Tm) (bs:List Bool) (w:Wk) (i:Nat) (x y:Pc),l.length=bs.length→df w.c.queues=true→w.pc i=y→i<w.c.procs.length→PStat w.c.queues x→LedOf w.c.queues x y→(∀a∈l,fZ y a.name=fZ x a.name)→Bl l→Rsl w.c.queues l→
  (∀n,aO w.c.queues n=true→(∀a,cV l n=some a→FitA w.c.queues n x a.am)∧(cV l n=none→FitR w.c.queues n y))→
  (∀k (h:k<l.length),bs.getD k false=true→bb (aX w.c.queues l[k].name).res (aq (aX w.c.queues l[k].name).holds x.proc) l[k].am=true)→
  w.ev.length+35*l.length≤800000→wV x i l bs w
 | [],bs,w,i,x,y,_,_,hy,_,_,_,_,_,_,_,_,_=>by cases bs <;> trivial
 | a :: l,[],w,i,x,y,hlen,_,_,_,_,_,_,_,_,_,_,_=>by simp at hlen
 | a :: l,b :: bs,w,i,x,y,hlen,hv,hy,hi,hsx,hl,hlh,hnd,hr,hf,hc,hev=>by
  obtain ⟨h1,h2⟩:=List.pairwise_cons.1 hnd
  obtain ⟨ha1,ha2⟩:=hr a (by simp)
  have hfa:FitA w.c.queues a.name x a.am:=(hf a.name ha1).1 a (by rw [cQ,aZ.2 rfl];rfl)
  have hr2:Rsl w.c.queues l:=fun b hb=>hr b (by simp [hb])
  have hat:∀n,n≠a.name→cV (a :: l) n=cV l n:=fun n hn=>by rw [cQ,bR.2 (fun h=>hn h.symm)];rfl
  have hnone:cV l a.name=none:=gK.2 fun b hb e=>h1 b hb e.symm
  have hgy:w.c.procs[i]? = some y:=by rw [List.getElem?_eq_getElem hi,←bv hi,hy]
  rw [List.length_cons] at hev
  cases b with
  | true =>
   have hcv:=hc 0 (by simp) (by simp)
   simp only [List.getElem_cons_zero] at hcv
   obtain ⟨y1,e1,k1,k2,k3⟩:=CK hv ha1 hy hi hl (hlh a (by simp)) ha2 hfa hcv
   refine ⟨hv,ha1,by omega,⟨y,hgy,hl.proc,hlh a (by simp),fun _=>Jd (i:=i) hv ha1 hl (hlh a (by simp)) ha2 hfa hcv⟩,(fun h=>by cases h),?_⟩
   rw [cond_true,e1]
   exact uy l bs (w.setP i y1) i x y1 (by simpa using hlen) hv (fk hi y1) (by show i<(w.c.procs.set i y1).length;simpa using hi) hsx k1 (fun b hb=>by rw [k3 _ (fun e=>h1 b hb e.symm)];exact hlh b (by simp [hb])) h2 hr2
    (fun n hn=>by
     by_cases en:n=a.name
     ·subst en
      exact ⟨fun b hb=>(by rw [hnone] at hb;cases hb),fun _=>k2⟩
     ·have h3:=hf n hn
      rw [hat n en] at h3
      exact ⟨h3.1,fun h4=>(h3.2 h4).led (by rw [k1.proc,hl.proc]) (k3 n en)⟩)
    (fun k hk hb=>by
     have h5:=hc (k+1) (by simpa using hk) (by simpa using hb)
     simp only [List.getElem_cons_succ] at h5
     exact h5)
    (by show w.ev.length+_≤_;omega)
  | false =>
   obtain ⟨k1,k2⟩:=ql hv ha1 hsx ha2 hfa
   refine ⟨hv,ha1,by omega,⟨y,hgy,hl.proc,hlh a (by simp),fun h=>by cases h⟩,fun _=>qS (n:=a.name) (by rw [k1.tp.hasE];exact ha1),?_⟩
   rw [cond_false]
   have hev2:=iE w x a.name
   exact uy l bs (bw w x a.name) i x y (by simpa using hlen) k1.tp.v (by unfold Wk.pc at hy ⊢;rw [k1.procs];exact hy) (by rw [k1.procs];exact hi) (hsx.tp k1.tp) ⟨hl.eq,hl.stat.tp k1.tp,hl.gr⟩ (fun b hb=>hlh b (by simp [hb])) h2 (hr2.tp k1.tp)
    (fun n hn=>by
     rw [k1.tp.hasE] at hn
     by_cases en:n=a.name
     ·subst en
      exact ⟨fun b hb=>(by rw [hnone] at hb;cases hb),fun _=>k2.led hl.proc (hlh a (by simp))⟩
     ·have h3:=hf n hn
      rw [hat n en] at h3
      have e1:=k1.oth n en hn
      exact ⟨fun b hb=>(h3.1 b hb).eq e1,fun h4=>(h3.2 h4).eq e1⟩)
    (fun k hk hb=>by
     have h5:=hc (k+1) (by simpa using hk) (by simpa using hb)
     simp only [List.getElem_cons_succ] at h5
     have hm:l[k]∈l:=List.getElem_mem hk
     rw [k1.oth l[k].name (fun e=>h1 _ hm e.symm) (hr2 _ hm).1]
     exact h5)
    (by omega)
theorem Je {w:Wk} {i:Nat} (h:CI w.c) (hi:i<w.c.procs.length) (hw:(w.pc i).waiting=true) (hev:w.ev.length≤700000) :
  wV (w.pc i) i (cj (w.pc i).req.expr) (cW (w.pc i).req.expr (bd w.c.queues (w.pc i).proc (w.pc i).req.expr)) (w.note 2 (w.pc i).proc):=by
 have hpc:=bv hi
 have hinv:=h.inv _ (List.getElem_mem hi)
 rw [←hpc] at hinv
 obtain ⟨hwt,hfit⟩:=hinv.wat hw
 obtain ⟨hve,hrsl⟩:=nC hwt.rs
 have h8:=dN (w.pc i).req.expr
 exact uy (cj (w.pc i).req.expr) (cW (w.pc i).req.expr (bd w.c.queues (w.pc i).proc (w.pc i).req.expr)) (w.note 2 (w.pc i).proc) i (w.pc i) (w.pc i) (nB _ _).symm h.tv rfl hi hinv.stat (LedOf.refl hinv.stat) (fun _ _=>rfl) (lT _) hrsl
  (fun n hn=>by
   have:=hfit n hn
   unfold FitW at this
   exact ⟨fun a ha=>by rw [ha] at this;exact this,fun ha=>by rw [ha] at this;exact this⟩)
  (fun k hk hb=>by
   have h1:=sL hb
   rw [DO hk,Bool.and_eq_true] at h1
   exact h1.2)
  (by rw [mO];omega)
def StP:Nat→Wk→Prop
 | 0,v=>v.c.procs.length≤100000∧fU v.c.queues 0 v.c.procs=none
 | n+1,v=>v.c.procs.length≤100000∧v.ev.length≤800000∧∀i,fU v.c.queues 0 v.c.procs=some i→i<v.c.procs.length∧
   wV (v.pc i) i (cj (v.pc i).req.expr) (cW (v.pc i).req.expr (bd v.c.queues (v.pc i).proc (v.pc i).req.expr)) (v.note 2 (v.pc i).proc)∧StP n (g8 v i)
theorem StP.len {n:Nat} {v:Wk} (h:StP n v):v.c.procs.length≤100000:=by cases n <;> exact h.1
theorem Ky:∀(n:Nat) (w:Wk),CI w.c→ce w.c.procs≤n→w.ev.length+281*n≤700000→StP n w
 | 0,w,h,hn,_=>by
  refine ⟨by have:=h.len;omega,?_⟩
  cases hs:fU w.c.queues 0 w.c.procs with
  | none=>rfl
  | some i =>
   obtain ⟨j,hj,_,h2⟩:=ja hs
   unfold eu at h2
   rw [Bool.and_eq_true] at h2
   have:=kv hj h2.1
   omega
 | n+1,w,h,hn,he=>by
  refine ⟨by have:=h.len;omega,by omega,fun i hs=>?_⟩
  obtain ⟨j,hj,e,h2⟩:=ja hs
  have e':i=j:=by omega
  subst e'
  have hwt:(w.pc i).waiting=true:=by
   rw [bv hj]
   unfold eu at h2
   rw [Bool.and_eq_true] at h2
   exact h2.1
  obtain ⟨k1,k2,_⟩:=CN h hj hwt
  have hfe:=zc w i
  exact ⟨hj,Je h hj hwt (by omega),Ky n (g8 w i) k1 (by omega) (by omega)⟩
theorem A9 {w:Wk} (h:CI w.c) (he:w.ev.length≤600000):StP w.c.procs.length w:=Ky _ _ h (mJ _) (by have:=h.len;omega)
def Kz (d:Nat) (w:Wk):List (Nat×Box):=[(9,.box 82 [.ptr 0 0]),(0,.box 85 (zn w 12)),(1,.arr 63 (fh d) w.c.procs),(12,.arr 67 i7 w.ev)]
def HS (d:Nat) (w:Wk):List (Nat×Option Box):=[(9,some (.box 82 [.ptr 0 0])),(0,some (.box 85 (zn w 12))),(1,some (.arr 63 (fh d) w.c.procs)),(12,some (.arr 67 i7 w.ev))]
theorem Jf (d:Nat) (w:Wk) (x:Pc) {b:Bool} (hb:eu w.c.queues x=b):FSpec prog 219 [x.a d,.one (.ptr 9 0)] (Kz d w) [] (.b b) (HS d w):=by
 refine aS func219 ?_
 unfold eu at hb
 obtain ⟨G,hG⟩:∃G,bd w.c.queues x.proc x.req.expr=G:=⟨_,rfl⟩
 have h8:=dN x.req.expr
 have hGl:G.length≤1000:=by rw [←hG];simp [bd];omega
 rw [hG] at hb
 have kG:=mW d w.c.queues x hG
 obtain ⟨v,hv⟩:∃v,dw x.req.expr G=v:=⟨_,rfl⟩
 have kH:=zu d x.req.expr G hGl hv
 rw [hv] at hb
 cases hw:x.waiting with
 | false =>
  rw [hw] at hb
  obtain rfl:false=b:=hb
  repeat' (first
   | refine ah ?_ ?_
   | (refine aa 21 rfl ?_;refine sx (aJ rfl rfl) ?_)
   | refine af ?_
   | exact ai|refine ae fun hb=>?_
   | (refine aE (qf []) ?_;exact ab))
 | true =>
  rw [hw] at hb
  obtain rfl:v=b:=hb
  repeat' (first
   | refine ah ?_ ?_
   | (refine aa 9 rfl ?_;first
    | (refine cC [] (kG) ?_)
    | (refine cB [] (kH) ?_))
   | (refine aa 21 rfl ?_;refine sx (aJ rfl rfl) ?_)
   | refine af ?_
   | exact ai|refine ae fun hb=>?_
   | (refine aE (qf []) ?_;exact ab))
theorem Gk (d:Nat) (w:Wk) (hl:w.c.procs.length≤100000) {o:Option Nat} (ho:fU w.c.queues 0 w.c.procs=o):FSpec prog 57 [.one (.own 1),.one (.clo 219 [9])] (Kz d w) [] (.i (JX o)) (HS d w):=by
 refine aS func57 ?_
 obtain ⟨l,hL⟩:∃l,w.c.procs=l:=⟨_,rfl⟩
 repeat' (first
  | refine ah ?_ ?_
  | refine af ?_
  | exact ai|refine ae fun hb=>?_)
 refine aj (fun i=>i≤w.c.procs.length∧fU w.c.queues i (w.c.procs.drop i)=o) (fun i=>bH [0,1,9,12] [(0,.c (.own 1)),(1,.c (.clo 219 [9])),(7,.i w.c.procs.length),(8,.i i)] [(0,.box 85 (zn w 12)),(1,.arr 63 (fh d) w.c.procs),(9,.box 82 [.ptr 0 0]),(12,.arr 67 i7 w.ev)]) (fun i=>w.c.procs.length-i) 0 ⟨Nat.zero_le _,ho⟩ (by exact ao (qf [])) ?_
 rintro i ⟨hi,hs⟩
 by_cases hlt:i<w.c.procs.length
 ·obtain ⟨x,hx⟩:∃x,w.c.procs[i]=x:=⟨_,rfl⟩
  have hgx:w.c.procs[i]? = some x:=by rw [List.getElem?_eq_getElem hlt,hx]
  rw [List.drop_eq_getElem_cons hlt,hx] at hs
  have hs:(bif eu w.c.queues x then some i else fU w.c.queues (i+1) (w.c.procs.drop (i+1)))=o:=hs
  obtain ⟨b,hb1⟩:∃b,eu w.c.queues x=b:=⟨_,rfl⟩
  have kS:=Jf d w x hb1
  rw [hb1] at hs
  cases b with
  | true =>
   obtain rfl:some i=o:=hs
   repeat' (first
    | refine ah ?_ ?_
    | (refine aa 9 rfl ?_;refine ll 1 [9] (qf [(0,0),(1,1),(12,12),(9,9)]) (kS) ?_)
    | refine af ?_
    | exact ai|refine ae fun hb=>?_
    | (refine aE (qf []) ?_;exact ab))
  | false =>
   repeat' (first
    | refine ah ?_ ?_
    | (refine aa 9 rfl ?_;refine ll 1 [9] (qf [(0,0),(1,1),(12,12),(9,9)]) (kS) ?_)
    | refine af ?_
    | exact ai|refine ae fun hb=>?_)
   refine ⟨i+1,⟨by omega,hs⟩,by omega,?_⟩
   exact ao (qf [])
 ·rw [List.drop_eq_nil_of_le (by omega)] at hs
  obtain rfl:none=o:=hs
  repeat' (first
   | refine ah ?_ ?_
   | refine af ?_
   | exact ai|refine ae fun hb=>?_
   | (refine aE (qf []) ?_;exact ab))
theorem FL (d:Nat) (w:Wk) (i:Nat) {x:Pc} (hx:w.c.procs[i]? = some x) (hev:w.ev.length≤900000) (hfin:wV x i (cj x.req.expr) (cW x.req.expr (bd w.c.queues x.proc x.req.expr)) (w.note 2 x.proc)) {Z:Wk} (hZ:g8 w i=Z):FSpec prog 220 [ov,pp i] (HP d w) [4] (.tup []) (HQ d Z):=by
 refine aS func220 ?_
 have hi:=(List.getElem?_eq_some_iff.1 hx).1
 have hpc:=gf hx
 have h8:=dN x.req.expr
 obtain ⟨L,hL⟩:∃L,cj x.req.expr=L:=⟨_,rfl⟩
 obtain ⟨G,hG⟩:∃G,bd w.c.queues x.proc x.req.expr=G:=⟨_,rfl⟩
 have hGl:G.length=(cj x.req.expr).length:=by rw [←hG];simp [bd]
 obtain ⟨K,hK⟩:∃K,cW x.req.expr G=K:=⟨_,rfl⟩
 have hKl:K.length=L.length:=by rw [←hK,nB,hL]
 have kA:=jW d x.req.expr hL
 have kG:=mW d w.c.queues x hG
 have kP:=H3 d x.req.expr G hGl hK
 have kS:=Ht d w 2 x.proc (by omega)
 obtain ⟨F,hF⟩:∃F,dm x i L K (w.note 2 x.proc)=F:=⟨_,rfl⟩
 rw [hG,hK,hL] at hfin
 have hFl:F.c.procs.length=w.c.procs.length:=by rw [←hF];exact (qE x i L K (w.note 2 x.proc)).2
 have hZ:bf (gI F i) i=Z:=by
  rw [←hZ,←hF]
  unfold g8
  rw [hpc,hG,hK,hL]
 obtain ⟨y,hy⟩:∃y,F.c.procs[i]? = some y:=⟨_,List.getElem?_eq_getElem (by omega)⟩
 have hpy:=gf hy
 obtain ⟨z,hz⟩:∃z,z=({ y with waiting:=false,req:=Rq.zero,since:=0 }:Pc):=⟨_,rfl⟩
 have hst:gI F i=F.setP i z:=by rw [hz];unfold gI;rw [hpy]
 have hZ:Z=(F.setP i z).setP i { z with gen:=aQ z.gen }:=by
  rw [←hZ,hst]
  unfold bf
  rw [fk (by omega)]
 have kR:=Gg d F.c.procs i hy
 rw [←hz] at kR
 have hzg:(F.c.procs.set i z)[i]? = some z:=gJ (by omega) z
 subst hZ
 have h8':L.length≤8:=by rw [←hL];exact h8
 clear hG hK hL hst hz hpy hpc h8 hGl
 repeat' (first
  | refine ah ?_ ?_
  | (refine aa 9 rfl ?_;first
   | (refine cH (qf [(0,0),(1,1),(2,2),(4,1004)]) (kS) ?_)
   | (refine cC [] (kG) ?_)
   | (refine cC [] (kP) ?_)
   | (refine cC [] (kA) ?_))
  | (refine aa 21 rfl ?_;first
   | (refine sx (aJ rfl rfl) ?_)
   | (refine sx (ay rfl rfl) ?_))
  | refine af ?_
  | exact ai|refine ae fun hb=>?_)
 refine aj (fun y:Nat×Wk=>y.1≤L.length∧wV x i (L.drop y.1) (K.drop y.1) y.2∧dm x i (L.drop y.1) (K.drop y.1) y.2=F) (fun y=>bH [0,1,2,1011] [(0,.v ov),(1,.v (pp i)),(4,.c (.sl cU K)),(33,.c (.sl bV L)),(34,.i L.length),(35,.i y.1)] [(0,.box 85 (zn y.2 1011)),(1,.arr 63 (fh d) y.2.c.procs),(1011,.arr 67 i7 y.2.ev)]) (fun y=>L.length-y.1) (0,w.note 2 x.proc) ⟨Nat.zero_le _,hfin,hF⟩ (by exact ao (qf [(1011,1004)])) ?_
 rintro ⟨k,u⟩ ⟨hk,hu,hg⟩
 dsimp only at *
 by_cases hlt:k<L.length
 case neg =>
  obtain rfl:u=F:=by rw [←hg,List.drop_eq_nil_of_le (by omega),List.drop_eq_nil_of_le (by omega)];rfl
  repeat' (first
   | refine ah ?_ ?_
   | (refine aa 9 rfl ?_;first
    | (refine cH (qf [(1,1)]) (kR) ?_)
    | (refine cB [] (iI z.gen) ?_))
   | (refine aa 21 rfl ?_;refine sx (ay rfl rfl) ?_)
   | refine af ?_
   | (refine aa 4 rfl ?_;refine bc (aB (z:={ z with gen:=aQ z.gen }) rfl rfl rfl rfl hzg rfl rfl rfl rfl (Nat.le_of_ble_eq_true rfl) rfl rfl) rfl rfl rfl ?_)
   | exact ai|refine ae fun hb=>?_
   | (exact sE (qf [(4,1011)])))
 rw [List.drop_eq_getElem_cons hlt,List.drop_eq_getElem_cons (l:=K) (by omega)] at hu hg
 obtain ⟨b,hb1⟩:∃b,K[k]'(by omega)=b:=⟨_,rfl⟩
 have hgb:K[k]? = some b:=by rw [List.getElem?_eq_getElem (by omega),hb1]
 obtain ⟨a,ha⟩:∃a,L[k]=a:=⟨_,rfl⟩
 have hga:L[k]? = some a:=by rw [List.getElem?_eq_getElem hlt,ha]
 rw [hb1,ha] at hu hg
 obtain ⟨u1,u2,u3,⟨v,v1,v2,v3,v4⟩,u5,u6⟩:=hu
 cases b with
 | false =>
  have u5:=u5 rfl
  have e:bw u v a.name=bw u x a.name:=by unfold bw;rw [v2,v3]
  obtain ⟨t,ht⟩:∃t,bw u x a.name=t:=⟨_,rfl⟩
  have kL:=DM d u i a.name v1 u1 u2 (by rw [e];exact u5) u3 (e.trans ht)
  have u6:wV x i (L.drop (k+1)) (K.drop (k+1)) t:=by rw [←ht];exact u6
  have hg:dm x i (L.drop (k+1)) (K.drop (k+1)) t=F:=by rw [←ht];exact hg
  clear u5 e ht v4 hfin hF
  repeat' (first
   | refine ah ?_ ?_
   | refine aa 9 rfl (cH (qf [(0,0),(1,1),(2,1011),(4,1020)]) (kL) ?_)
   | refine af ?_
   | exact ai|(refine ae fun hb=>?_;first|(exfalso;omega)|skip))
  refine ⟨(k+1,t),⟨by dsimp only;omega,u6,hg⟩,by dsimp only;omega,?_⟩
  dsimp only
  exact ao (qf [(1011,1020)])
 | true =>
  have v4:=v4 rfl
  obtain ⟨t,ht⟩:∃t,gS u i x.proc a.name=t:=⟨_,rfl⟩
  have kR:=FH d u i a.name v1 u2 (by rw [v2];exact v4) (by omega) (Z:=t) (by rw [v2];exact ht)
  have u6:wV x i (L.drop (k+1)) (K.drop (k+1)) t:=by rw [←ht];exact u6
  have hg:dm x i (L.drop (k+1)) (K.drop (k+1)) t=F:=by rw [←ht];exact hg
  clear u5 ht v4 hfin hF
  repeat' (first
   | refine ah ?_ ?_
   | refine aa 9 rfl (cH (qf [(0,0),(1,1),(2,1011),(4,1020)]) (kR) ?_)
   | refine af ?_
   | exact ai|(refine ae fun hb=>?_;first|(exfalso;omega)|skip))
  refine ⟨(k+1,t),⟨by dsimp only;omega,u6,hg⟩,by dsimp only;omega,?_⟩
  dsimp only
  exact ao (qf [(1011,1020)])
def Ke (w:Wk) (b:Nat):List D:=[.sc (.int .i64 w.c.now),.sl dt w.c.queues,.own 50,.own b]
theorem lc (d:Nat) (w:Wk) (n:Nat) (hok:StP n w):FSpec prog 154 [ov] [(0,.box 85 (Ke w 2)),(50,.arr 63 (fh d) w.c.procs),(2,.arr 67 i7 w.ev)] [4] (.tup []) [(0,some (.box 85 (Ke (a8 n w) 4))),(50,some (.arr 63 (fh d) (a8 n w).c.procs)),(4,some (.arr 67 i7 (a8 n w).ev)),(2,none)]:=by
 refine aS func154 ?_
 obtain ⟨W,hW⟩:∃W,a8 n w=W:=⟨_,rfl⟩
 rw [hW]
 repeat' (first
  | refine ah ?_ ?_
  | refine af ?_
  | exact ai|refine ae fun hb=>?_)
 refine aj (fun y:Nat×Wk=>StP y.1 y.2∧a8 y.1 y.2=W) (fun y=>bH [0,1,2,50,1011] [(1,.c (.ptr 1 0))] [(0,.box 85 (Ke y.2 1011)),(1,.box 82 [.ptr 0 0]),(50,.arr 63 (fh d) y.2.c.procs),(1011,.arr 67 i7 y.2.ev)]) (fun y=>y.1) (n,w) ⟨hok,hW⟩ (by exact ao (qf [(1011,2)])) ?_
 rintro ⟨m,v⟩ ⟨hv,hs⟩
 dsimp only at *
 cases ho:fU v.c.queues 0 v.c.procs with
 | none =>
  obtain rfl:v=W:=by
   rw [←hs]
   cases m with
   | zero=>rfl
   | succ m=>simp [a8,ho]
  have kI:=Gk d v hv.len ho
  have hneg:JX none = -1:=rfl
  repeat' (first
   | refine ah ?_ ?_
   | (refine aa 0 rfl ?_;refine sx (cD (ks:=[1]) rfl rfl) ?_)
   | refine aa 9 rfl (cH (qf [(9,1),(0,0),(1,50),(12,1011)]) (kI) ?_)
   | (refine aa 21 rfl ?_;refine sx (aJ rfl rfl) ?_)
   | refine af ?_
   | exact ai|(refine ae fun hb=>?_;first|(exact absurd hb (by decide))|skip)
   | (exact sE (qf [(4,1011)])))
 | some i =>
  cases m with
  | zero=>rw [hv.2] at ho;cases ho
  | succ m =>
   have hl0:=hv.len
   obtain ⟨_,hev,hall⟩:=hv
   obtain ⟨hi,hfin,hnext⟩:=hall i ho
   rw [show a8 (m+1) v=a8 m (g8 v i) by simp [a8,ho]] at hs
   obtain ⟨x,hx⟩:∃x,v.c.procs[i]? = some x:=⟨_,List.getElem?_eq_getElem hi⟩
   have hpc:=gf hx
   rw [hpc] at hfin
   obtain ⟨Z,hZ⟩:∃Z,g8 v i=Z:=⟨_,rfl⟩
   have kF:=FL d v i hx (by omega) hfin hZ
   have kI:=Gk d v hl0 ho
   rw [hZ] at hs hnext
   have hx1:JX (some i)=(i:Int):=rfl
   rw [hx1] at kI
   clear hall hZ hfin
   repeat' (first
    | refine ah ?_ ?_
    | (refine aa 0 rfl ?_;refine sx (cD (ks:=[1]) rfl rfl) ?_)
    | (refine aa 9 rfl ?_;first
     | (refine cH (qf [(9,1),(0,0),(1,50),(12,1011)]) (kI) ?_)
     | (refine cH (qf [(0,0),(1,50),(2,1011),(4,1020)]) (kF) ?_))
    | (refine aa 21 rfl ?_;refine sx (aJ rfl rfl) ?_)
    | refine af ?_
    | exact ai|(refine ae fun hb=>?_;first|(exfalso;omega)|skip))
   refine ⟨(m,Z),⟨hnext,hs⟩,by dsimp only;omega,?_⟩
   dsimp only
   exact ao (qf [(1011,1020)])
theorem zy {t t':List Qu} (h:es t'=es t) (ht:t≠[]):t'≠[]:=fun e=>by
 subst e
 cases t with
 | nil=>exact ht rfl
 | cons q l=>cases h
theorem Kf {w:Wk} {i:Nat} (h:CI w.c) (hi:i<w.c.procs.length) (hw:(w.pc i).waiting=true) (hev:w.ev.length≤700000):cj (w.pc i).req.expr=[]∨Kd (w.pc i) (cj (w.pc i).req.expr) w:=by
 have hd:=xT h hi hw
 have h8:=dN (w.pc i).req.expr
 obtain ⟨_,_,hk,_,_⟩:=c7 h hi hw
 have hn:es (c9 (w.pc i) (cj (w.pc i).req.expr) w).c.queues=es w.c.queues:=hk.nm
 cases hL:cj (w.pc i).req.expr with
 | nil=>exact .inl rfl
 | cons a l =>
  right
  rw [hL] at hd hn h8
  exact ⟨hd.ok (by omega),zy hn (qS hd.2.1),by omega⟩
theorem DP (d:Nat) (w:Wk) (i:Nat) {x:Pc} (hx:w.c.procs[i]? = some x) (h:CI w.c) (hev:w.ev.length≤500000) {Z:Wk×Int} (hZ:(bif !x.waiting then (w,14) else (br (bf (aC w i) i),0))=Z):FSpec prog 82 [ov,pp i] (HP d w) [4] (.i Z.2) (HQ d Z.1):=by
 refine aS func82 ?_
 have hi:=(List.getElem?_eq_some_iff.1 hx).1
 have hpc:=gf hx
 cases hw:x.waiting with
 | false =>
  rw [hw] at hZ
  obtain rfl:(w,14)=Z:=hZ
  repeat' (first
   | refine ah ?_ ?_
   | (refine aa 21 rfl ?_;refine sx (ay rfl rfl) ?_)
   | refine af ?_
   | exact ai|refine ae fun hb=>?_
   | (refine aE (qf [(4,2)]) ?_;exact ab))
 | true =>
  rw [hw] at hZ
  have hw':(w.pc i).waiting=true:=by rw [hpc];exact hw
  obtain ⟨c1,_,hk,hps,_⟩:=c7 h hi hw'
  have hdr:=Kf h hi hw' (by omega)
  have hev1:=jb w i
  have hlen:=hk.len
  rw [hpc] at hdr hps
  obtain ⟨V,hV⟩:∃V,aC w i=V:=⟨_,rfl⟩
  have kW:=nP d w i hx hdr hV
  rw [hV] at c1 hps hev1 hZ hlen
  obtain ⟨y,hy⟩:∃y,V.c.procs[i]? = some y:=⟨_,List.getElem?_eq_getElem (by omega)⟩
  have hyw:y.waiting=false:=by
   have:=hy
   rw [hps,List.getElem?_set_self hi] at this
   obtain rfl:=Option.some.inj this
   rfl
  have hpy:=gf hy
  have hN:bf V i=V.setP i { y with gen:=aQ y.gen }:=by unfold bf;rw [hpy]
  obtain ⟨c2,_⟩:=gY c1 (by omega:i<V.c.procs.length) (by rw [hpy];exact hyw)
  rw [hN] at hZ c2
  obtain ⟨F,hF⟩:∃F,br (V.setP i { y with gen:=aQ y.gen })=F:=⟨_,rfl⟩
  have kS:=lc d (V.setP i { y with gen:=aQ y.gen }) _ (A9 c2 (by show V.ev.length≤_;omega))
  rw [show a8 (V.setP i { y with gen:=aQ y.gen }).c.procs.length (V.setP i { y with gen:=aQ y.gen })=F from hF] at kS
  obtain rfl:(F,(0:Int))=Z:=by rw [←hZ];exact congrArg (fun z=>(z,(0:Int))) hF.symm
  clear hZ hN hF hps hV hdr c1 c2
  repeat' (first
   | refine ah ?_ ?_
   | (refine aa 9 rfl ?_;first
    | (refine cH (qf [(0,0),(1,1),(2,2),(4,1004)]) (kW) ?_)
    | (refine cB [] (iI y.gen) ?_)
    | (refine cH (qf [(0,0),(50,1),(2,1004),(4,1006)]) (kS) ?_))
   | (refine aa 21 rfl ?_;refine sx (ay rfl rfl) ?_)
   | refine af ?_
   | (refine aa 4 rfl ?_;refine bc (aB (z:={ y with gen:=aQ y.gen }) rfl rfl rfl rfl hy rfl rfl rfl rfl (Nat.le_of_ble_eq_true rfl) rfl rfl) rfl rfl rfl ?_)
   | exact ai|refine ae fun hb=>?_
   | (refine aE (qf [(4,1006)]) ?_;exact ab))
theorem H5 (d:Nat) (w:Wk) (i:Nat) (n:Int) {x:Pc} (hx:w.c.procs[i]? = some x) {Z:Wk×Int} (hZ:(bif x.waiting then (w,14) else bif !decide ((el x.led n).2=0) then (w,(el x.led n).2) else (bf (w.setP i { x with led:=(el x.led n).1 }) i,0))=Z):FSpec prog 84 [ov,pp i,Bk n] (HP d w) [4] (.i Z.2) (HQ d Z.1):=by
 refine aS func84 ?_
 have hi:=(List.getElem?_eq_some_iff.1 hx).1
 cases hw:x.waiting with
 | true =>
  rw [hw] at hZ
  obtain rfl:(w,14)=Z:=hZ
  repeat' (first
   | refine ah ?_ ?_
   | (refine aa 21 rfl ?_;refine sx (ay rfl rfl) ?_)
   | refine af ?_
   | exact ai|refine ae fun hb=>?_
   | (refine aE (qf [(4,2)]) ?_;exact ab))
 | false =>
  rw [hw,cond_false] at hZ
  obtain ⟨R,hR⟩:∃R,el x.led n=R:=⟨_,rfl⟩
  rw [hR] at hZ
  have kS:=HY x.led n hR
  obtain ⟨g,e⟩:=R
  by_cases he:e=0
  ·subst he
   have hZ:(bf (w.setP i { x with led:=g }) i,(0:Int))=Z:=by rw [←hZ,decide_eq_true rfl,hw];rfl
   have hyi:=gJ hi { x with led:=g }
   have hN:bf (w.setP i { x with led:=g }) i=(w.setP i { x with led:=g }).setP i { x with led:=g,gen:=aQ x.gen }:=by
    unfold bf
    rw [fk hi]
   rw [hN] at hZ
   subst hZ
   clear hR hN
   repeat' (first
    | refine ah ?_ ?_
    | (refine aa 9 rfl ?_;first
     | (refine cC [] (kS) ?_)
     | (refine cB [] (iI x.gen) ?_))
    | (refine aa 21 rfl ?_;refine sx (ay rfl rfl) ?_)
    | refine af ?_
    | (refine aa 4 rfl ?_;first
     | (refine bc (aB (z:={ x with led:=g }) rfl rfl rfl rfl hx rfl rfl rfl rfl (Nat.le_of_ble_eq_true rfl) rfl rfl) rfl rfl rfl ?_)
     | (refine bc (aB (z:={ x with led:=g,gen:=aQ x.gen }) rfl rfl rfl rfl hyi rfl rfl rfl rfl (Nat.le_of_ble_eq_true rfl) rfl rfl) rfl rfl rfl ?_))
    | exact ai|(refine ae fun hb=>?_;first|(exact absurd rfl hb)|skip)
    | (refine aE (qf [(4,2)]) ?_;exact ab))
  ·rw [decide_eq_false he] at hZ
   obtain rfl:(w,e)=Z:=hZ
   repeat' (first
    | refine ah ?_ ?_
    | refine aa 9 rfl (cC [] (kS) ?_)
    | (refine aa 21 rfl ?_;refine sx (ay rfl rfl) ?_)
    | refine af ?_
    | exact ai|(refine ae fun hb=>?_;first|(exact absurd hb he)|skip)
    | (refine aE (qf [(4,2)]) ?_;exact ab))
theorem Ba {g:Lg} (h:Ld g) {n:ByteArray} (hn:az g.entries n=⟨0,0⟩):g.entries.filter (oth n)=g.entries:=by
 have h1:=(vZ h.ents n).1
 rw [hn,show Cd ⟨0,0⟩=0 from by decide] at h1
 have h2:(g.entries.filter fun e=>aY e.name n)=[]:=List.length_eq_zero_iff.1 (by omega)
 rw [List.filter_eq_nil_iff] at h2
 exact List.filter_eq_self.2 fun e he=>by
  have:=h2 e he
  simpa [oth] using this
theorem yk {g:Lg} (h:Ld g) {n:ByteArray}:(ip g n).2 = !decide (az g.entries n=⟨0,0⟩):=by
 have hV:=fc.2 h
 unfold ip
 rw [hV,Bool.not_true,cond_false]
 by_cases hn:az g.entries n=⟨0,0⟩
 ·rw [decide_eq_true hn]
  have hf:g.entries.filter (oth n)=g.entries:=Ba h hn
  rw [show (fT g n).entries=g.entries from hf,decide_eq_true rfl]
  rfl
 ·rw [decide_eq_false hn]
  have hne:(fT g n).entries.length≠g.entries.length:=by
   intro e
   have h1:g.entries.filter (oth n)=g.entries:=List.Sublist.eq_of_length List.filter_sublist e
   have h2:=gm n n g.entries
   rw [h1,if_pos rfl] at h2
   exact hn h2
  rw [decide_eq_false hne]
  rfl
theorem Bb (d:Nat) (w:Wk) (i:Nat) (n:ByteArray) {x:Pc} (hx:w.c.procs[i]? = some x) (h:CI w.c) (hev:w.ev.length≤500000) {Z:Wk×Int} (hZ:dY w i n=Z):FSpec prog 83 [ov,pp i,.one (.sc (.string n))] (HP d w) [4] (.i Z.2) (HQ d Z.1):=by
 refine aS func83 ?_
 have hi:=(List.getElem?_eq_some_iff.1 hx).1
 have hpc:=gf hx
 rw [xV] at hZ
 cases hw:x.waiting with
 | true =>
  rw [hpc,hw] at hZ
  obtain rfl:(w,14)=Z:=hZ
  repeat' (first
   | refine ah ?_ ?_
   | (refine aa 21 rfl ?_;refine sx (ay rfl rfl) ?_)
   | refine af ?_
   | exact ai|refine ae fun hb=>?_
   | (refine aE (qf [(4,2)]) ?_;exact ab))
 | false =>
  have hw':(w.pc i).waiting=false:=by rw [hpc];exact hw
  have hinv:=h.inv _ (List.getElem_mem hi)
  rw [←bv hi,hpc] at hinv
  obtain ⟨_,_,hrun⟩:=hinv.run hw
  have hD2:=yk hinv.stat.led (n:=n)
  obtain ⟨R,hR⟩:∃R,ip x.led n=R:=⟨_,rfl⟩
  have kD:=H0 x.led n hR
  rw [hR] at hD2
  by_cases h0:az x.led.entries n=⟨0,0⟩
  ·rw [hpc,hw,h0,decide_eq_true rfl] at hZ
   obtain rfl:(w,10)=Z:=hZ
   rw [h0,decide_eq_true rfl] at hD2
   obtain ⟨g,e⟩:=R
   obtain rfl:e=false:=hD2
   repeat' (first
    | refine ah ?_ ?_
    | refine aa 9 rfl (cC [] (kD) ?_)
    | (refine aa 21 rfl ?_;refine sx (ay rfl rfl) ?_)
    | refine af ?_
    | exact ai|refine ae fun hb=>?_
    | (refine aE (qf [(4,2)]) ?_;exact ab))
  ·have hn:=(hinv.stat.hf n h0).1
   have hg:=(hrun n hn).h
   obtain ⟨c2,_,_,hnm⟩:=oy h hi hw' (by rw [hpc];exact h0)
   unfold rr at hZ c2 hnm
   rw [hpc] at hZ c2 hnm
   rw [hw,decide_eq_false h0,cond_false,cond_false] at hZ
   rw [decide_eq_false h0] at hD2
   obtain ⟨g,e⟩:=R
   obtain rfl:e=true:=hD2
   rw [hR] at hZ c2 hnm
   have hdb:cd w x.proc n ⟨0,0⟩=fe w x.proc ⟨n,⟨0,0⟩⟩:=by
    unfold cd
    rw [hg,decide_eq_false h0]
    rfl
   have hne:(cd w x.proc n ⟨0,0⟩).c.queues≠[]:=by rw [hdb];exact zy hnm (qS hn)
   have hev1:=mN w x.proc n ⟨0,0⟩
   obtain ⟨V,hV⟩:∃V,cd w x.proc n ⟨0,0⟩=V:=⟨_,rfl⟩
   have kL:=FF d w x.proc n ⟨0,0⟩ hn hne (by omega) hV
   have hVp:V.c.procs=w.c.procs:=by rw [←hV];exact jT w x.proc n ⟨0,0⟩
   rw [←hdb,hV] at hZ c2
   rw [hV] at hev1
   have hy:V.c.procs[i]? = some x:=by rw [hVp];exact hx
   have hiV:i<V.c.procs.length:=by rw [hVp];exact hi
   have hN:bf (V.setP i { x with led:=g }) i=(V.setP i { x with led:=g }).setP i { x with led:=g,gen:=aQ x.gen }:=by
    unfold bf
    rw [fk hiV]
   dsimp only at hZ c2
   have hyi:=gJ hiV { x with led:=g }
   rw [hN] at hZ c2
   obtain ⟨Y,hY⟩:∃Y,a8 ((V.setP i { x with led:=g }).setP i { x with led:=g,gen:=aQ x.gen }).c.procs.length ((V.setP i { x with led:=g }).setP i { x with led:=g,gen:=aQ x.gen })=Y:=⟨_,rfl⟩
   have kS:=lc d ((V.setP i { x with led:=g }).setP i { x with led:=g,gen:=aQ x.gen }) _ (A9 c2 (by show V.ev.length≤_;omega))
   rw [hY] at kS
   obtain rfl:(Y,(0:Int))=Z:=by rw [←hZ];exact congrArg (fun z=>(z,(0:Int))) hY.symm
   clear hZ hN hY hV hdb hne hnm c2 hrun hinv hR
   repeat' (first
    | refine ah ?_ ?_
    | (refine aa 9 rfl ?_;first
     | (refine cC [] (kD) ?_)
     | (refine cH (qf [(0,0),(1,1),(2,2),(4,1004)]) (kL) ?_)
     | (refine cB [] (iI x.gen) ?_)
     | (refine cH (qf [(0,0),(50,1),(2,1004),(4,1006)]) (kS) ?_))
    | (refine aa 21 rfl ?_;refine sx (ay rfl rfl) ?_)
    | refine af ?_
    | (refine aa 4 rfl ?_;first
     | (refine bc (aB (z:={ x with led:=g }) rfl rfl rfl rfl hy rfl rfl rfl rfl (Nat.le_of_ble_eq_true rfl) rfl rfl) rfl rfl rfl ?_)
     | (refine bc (aB (z:={ x with led:=g,gen:=aQ x.gen }) rfl rfl rfl rfl hyi rfl rfl rfl rfl (Nat.le_of_ble_eq_true rfl) rfl rfl) rfl rfl rfl ?_))
    | exact ai|refine ae fun hb=>?_
    | (refine aE (qf [(4,1006)]) ?_;exact ab))
theorem yl (p:Pr) (n:ByteArray) (l:Am) (w:Wk) (i:Nat) (z:Pc):cd (w.setP i z) p n l=(cd w p n l).setP i z:=by
 unfold cd fe
 show (bif decide (aq (aX w.c.queues n).holds p=l) then w.setP i z else _)=_
 cases decide (aq (aX w.c.queues n).holds p=l) <;> rfl
theorem nQ (p:Pr) (i:Nat) (z:Pc):∀(l:List Tm) (w:Wk),bP p l (w.setP i z)=(bP p l w).setP i z∧(AI p l w→AI p l (w.setP i z))
 | [],w=>⟨rfl,fun _=>trivial⟩
 | a :: l,w=>by
  have ih:=nQ p i z l (cd w p a.name a.am)
  have e:=yl p a.name a.am w i z
  refine ⟨?_,fun h=>⟨h.1,h.2.1,?_⟩⟩
  ·show bP p l (cd (w.setP i z) p a.name a.am)=_
   rw [e];exact ih.1
  ·rw [e];exact ih.2 h.2.2
theorem ym (d:Nat) (w:Wk) (i:Nat) (n:Int) {x:Pc} (hx:w.c.procs[i]? = some x) (h:CI w.c) (hev:w.ev.length≤400000) {Z:Wk×Int} (hZ:cX w i n=Z):FSpec prog 85 [ov,pp i,Bk n] (HP d w) [4] (.i Z.2) (HQ d Z.1):=by
 refine aS func85 ?_
 have hi:=(List.getElem?_eq_some_iff.1 hx).1
 have hpc:=gf hx
 rw [wx] at hZ
 obtain ⟨U,hU⟩:∃U,dF x.led n=U:=⟨_,rfl⟩
 have kU:=I9 x.led n hU
 by_cases h0:U.2.2=0
 case neg =>
  rw [hpc,hU,decide_eq_false h0] at hZ
  obtain rfl:(w,U.2.2)=Z:=hZ
  obtain ⟨g,L,e⟩:=U
  repeat' (first
   | refine ah ?_ ?_
   | refine aa 9 rfl (cC [] (kU) ?_)
   | (refine aa 21 rfl ?_;refine sx (ay rfl rfl) ?_)
   | refine af ?_
   | exact ai|(refine ae fun hb=>?_;first|(exact absurd hb h0)|skip)
   | (refine aE (qf [(4,2)]) ?_;exact ab))
 obtain ⟨hlw,c2,hkp,_⟩:=mK (n:=n) h hi (by rw [hpc,hU];exact h0)
 have hrest:=y7 h hi
 have hUl:=AJ x.led n
 obtain ⟨y,hy,hyp⟩:=Fe hx
 have hyc:=gf hy
 have hev1:(lU w i).ev.length≤w.ev.length+280:=by
  unfold lU
  cases (w.pc i).waiting with
  | false=>rw [cond_false];omega
  | true=>exact jb w i
 have hnmA:es (lU w i).c.queues=es w.c.queues:=hrest.kp.nm
 have hWev:(oN w i n).ev.length≤(lU w i).ev.length+18*U.2.1.length:=by
  have:=qH (w.pc i).proc (dF (w.pc i).led n).2.1 (xU w i n)
  rw [hpc,hU] at this
  show (bP (w.pc i).proc (dF (w.pc i).led n).2.1 (xU w i n)).ev.length≤_
  rw [hpc,hU]
  exact this
 have hnmS:=hkp.nm
 have hlw:=hlw.ok (by rw [hpc,hU];show (lU w i).ev.length+_≤_;rw [hU] at hUl;omega)
 rw [hpc,hU] at hlw
 rw [hU] at hUl
 obtain ⟨A,hA⟩:∃A,lU w i=A:=⟨_,rfl⟩
 have hBB:xU w i n=A.setP i { y with led:=U.1 }:=by
  unfold xU
  rw [hA,hpc,hU,←hA,hyc]
 rw [hBB] at hlw
 have hiA:i<A.c.procs.length:=by rw [←hA,CX];exact hi
 have hSS:oN w i n=bP x.proc U.2.1 ((A.setP i { y with led:=U.1 }).setP i { y with led:=U.1,gen:=aQ y.gen }):=by
  unfold oN
  rw [hBB,hpc,hU,(nQ x.proc i { y with led:=U.1,gen:=aQ y.gen } U.2.1 (A.setP i { y with led:=U.1 })).1]
  unfold bf
  have:(bP x.proc U.2.1 (A.setP i { y with led:=U.1 })).pc i = { y with led:=U.1 }:=by
   unfold Wk.pc
   rw [ia]
   exact fk hiA _
  rw [this]
 have hlw2:=(nQ x.proc i { y with led:=U.1,gen:=aQ y.gen } U.2.1 (A.setP i { y with led:=U.1 })).2 hlw
 rw [hpc,hU,decide_eq_true h0] at hZ
 rw [hSS] at c2 hZ hnmS hWev
 rw [hA] at hy hev1 hWev hnmA
 have hyi:=gJ hiA { y with led:=U.1 }
 obtain ⟨B,hB⟩:∃B,(A.setP i { y with led:=U.1 }).setP i { y with led:=U.1,gen:=aQ y.gen } = B:=⟨_,rfl⟩
 have hBq:B.c.queues=A.c.queues:=by rw [←hB];rfl
 obtain ⟨W,hW⟩:∃W,bP x.proc U.2.1 B=W:=⟨_,rfl⟩
 rw [hB] at hlw2
 rw [hB,hW] at c2 hZ hnmS hWev
 obtain ⟨L,hL⟩:∃L,U.2.1=L:=⟨_,rfl⟩
 rw [hL] at hlw2 hW hWev hUl
 have hWne:L=[]∨W.c.queues≠[]:=by
  cases L with
  | nil=>exact .inl rfl
  | cons a l =>
   have h1:=hlw2.1
   rw [hBq] at h1
   exact .inr (zy (hnmS.trans hnmA.symm) (qS h1))
 obtain ⟨F,hF⟩:∃F,a8 W.c.procs.length W=F:=⟨_,rfl⟩
 have kS:=lc d W _ (A9 c2 (by omega))
 rw [hF] at kS hZ
 obtain rfl:(F,(0:Int))=Z:=hZ
 have hWp:i<W.c.procs.length:=by rw [←hW,ia,←hB];show i<(List.set _ _ _).length;rw [List.length_set];exact (by rw [show (A.setP i { y with led:=U.1 }).c.procs=A.c.procs.set i { y with led:=U.1 } from rfl,List.length_set];exact hiA)
 have hBp:∃v,B.c.procs[i]? = some v∧v.proc=x.proc:=⟨{ y with led:=U.1,gen:=aQ y.gen },by rw [←hB];exact gJ (by show i<(A.c.procs.set i _).length;rw [List.length_set];exact hiA) _,hyp⟩
 have hdr:=fun hw=>Kf h hi hw (by omega)
 rw [hpc] at hdr
 obtain ⟨g,L2,e⟩:=U
 obtain rfl:L2=L:=hL
 obtain rfl:e=0:=h0
 dsimp only at hB hyi
 have kW:=fun hw=>nP d w i hx (hdr hw) rfl
 have hA2:A=bif x.waiting then aC w i else w:=by rw [←hA];unfold lU;rw [hpc]
 clear hlw hSS hBB hA hF hdr hrest hkp c2 hnmS hnmA hU
 subst hB
 cases hw:x.waiting
 case' false =>
  rw [hw,cond_false] at hA2
  subst hA2
  clear kW
  obtain rfl:x=y:=Option.some.inj (hx.symm.trans hy)
  repeat' (first
   | refine ah ?_ ?_
   | (refine aa 9 rfl ?_;first
    | (refine cC [] (kU) ?_)
    | (refine cB [] (iI x.gen) ?_))
   | (refine aa 21 rfl ?_;refine sx (ay rfl rfl) ?_)
   | refine af ?_
   | (refine aa 4 rfl ?_;first
    | (refine bc (aB (z:={ x with led:=g }) rfl rfl rfl rfl hy rfl rfl rfl rfl (Nat.le_of_ble_eq_true rfl) rfl rfl) rfl rfl rfl ?_)
    | (refine bc (aB (z:={ x with led:=g,gen:=aQ x.gen }) rfl rfl rfl rfl hyi rfl rfl rfl rfl (Nat.le_of_ble_eq_true rfl) rfl rfl) rfl rfl rfl ?_))
   | exact ai|(refine ae fun hb=>?_;first|(exact absurd rfl hb)|skip))
 case' true =>
  rw [hw,cond_true] at hA2
  have kW:=kW (by rw [hw])
  rw [←hA2] at kW
  repeat' (first
   | refine ah ?_ ?_
   | (refine aa 9 rfl ?_;first
    | (refine cC [] (kU) ?_)
    | (refine cH (qf [(0,0),(1,1),(2,2),(4,1004)]) (kW) ?_)
    | (refine cB [] (iI y.gen) ?_))
   | (refine aa 21 rfl ?_;refine sx (ay rfl rfl) ?_)
   | refine af ?_
   | (refine aa 4 rfl ?_;first
    | (refine bc (aB (z:={ y with led:=g }) rfl rfl rfl rfl hy rfl rfl rfl rfl (Nat.le_of_ble_eq_true rfl) rfl rfl) rfl rfl rfl ?_)
    | (refine bc (aB (z:={ y with led:=g,gen:=aQ y.gen }) rfl rfl rfl rfl hyi rfl rfl rfl rfl (Nat.le_of_ble_eq_true rfl) rfl rfl) rfl rfl rfl ?_))
   | exact ai|(refine ae fun hb=>?_;first|(exact absurd rfl hb)|skip))
 case' false=>refine aj (fun y:Nat×Wk=>y.1≤L2.length∧bP x.proc (L2.drop y.1) y.2=W∧AI x.proc (L2.drop y.1) y.2∧∃v,y.2.c.procs[i]? = some v∧v.proc=x.proc) (fun y=>bH [0,1,2,1011] [(0,.v ov),(1,.v (pp i)),(44,.c (.sl bV L2)),(45,.i L2.length),(46,.i y.1)] [(0,.box 85 (zn y.2 1011)),(1,.arr 63 (fh d) y.2.c.procs),(1011,.arr 67 i7 y.2.ev)]) (fun y=>L2.length-y.1) (0,(A.setP i { x with led:=g }).setP i { x with led:=g,gen:=aQ x.gen }) ⟨Nat.zero_le _,hW,hlw2,hBp⟩ (by exact ao (qf [(1011,2)])) ?_
 case' true=>refine aj (fun y:Nat×Wk=>y.1≤L2.length∧bP x.proc (L2.drop y.1) y.2=W∧AI x.proc (L2.drop y.1) y.2∧∃v,y.2.c.procs[i]? = some v∧v.proc=x.proc) (fun y=>bH [0,1,2,1011] [(0,.v ov),(1,.v (pp i)),(44,.c (.sl bV L2)),(45,.i L2.length),(46,.i y.1)] [(0,.box 85 (zn y.2 1011)),(1,.arr 63 (fh d) y.2.c.procs),(1011,.arr 67 i7 y.2.ev)]) (fun y=>L2.length-y.1) (0,(A.setP i { y with led:=g }).setP i { y with led:=g,gen:=aQ y.gen }) ⟨Nat.zero_le _,hW,hlw2,hBp⟩ (by exact ao (qf [(1011,1004)])) ?_
 all_goals
  clear hy hyi hyc
  rintro ⟨k,u⟩ ⟨hk,hu,hul,v,hv1,hv2⟩
  dsimp only at *
  by_cases hlt:k<L2.length
  ·rw [List.drop_eq_getElem_cons hlt] at hu hul
   obtain ⟨u1,u2,u3⟩:=hul
   obtain ⟨a,ha⟩:∃a,L2[k]=a:=⟨_,rfl⟩
   have hga:L2[k]? = some a:=by rw [List.getElem?_eq_getElem hlt,ha]
   rw [ha] at hu u1 u3
   have hu:bP x.proc (L2.drop (k+1)) (cd u x.proc a.name a.am)=W:=hu
   have hne:(cd u x.proc a.name a.am).c.queues≠[]:=fun e=>by
    have h9:=qM (p:=x.proc) (l:=L2.drop (k+1)) e
    rw [hu] at h9
    rcases hWne with e2|e2
    ·rw [e2] at hlt;exact absurd hlt (by simp)
    ·exact e2 h9
   have hzp:=jT u x.proc a.name a.am
   obtain ⟨z,hz⟩:∃z,cd u x.proc a.name a.am=z:=⟨_,rfl⟩
   have kL:=FF d u x.proc a.name a.am u1 hne u2 hz
   rw [hz] at hu u3 hzp
   rw [←hv2] at kL
   clear hne hz
   repeat' (first
    | refine ah ?_ ?_
    | refine aa 9 rfl (cH (qf [(0,0),(1,1),(2,1011),(4,1020)]) (kL) ?_)
    | (refine aa 21 rfl ?_;refine sx (ay rfl rfl) ?_)
    | refine af ?_
    | exact ai|refine ae fun hb=>?_)
   refine ⟨(k+1,z),⟨by dsimp only;omega,hu,u3,v,by dsimp only;rw [hzp];exact hv1,hv2⟩,by dsimp only;omega,?_⟩
   dsimp only
   exact ao (qf [(1011,1020)])
  ·rw [List.drop_eq_nil_of_le (by omega)] at hu
   obtain rfl:u=W:=hu
   repeat' (first
    | refine ah ?_ ?_
    | refine aa 9 rfl (cH (qf [(0,0),(50,1),(2,1011),(4,1020)]) (kS) ?_)
    | refine af ?_
    | exact ai|refine ae fun hb=>?_
    | (refine aE (qf [(4,1020)]) ?_;exact ab))
def KL (w:Wk) (a b:Nat):List D:=[.sc (.int .i64 w.c.now),.sl dt w.c.queues,.own a,.own b]
def HR (d:Nat) (w:Wk):List (Nat×Option Box):=[(0,some (.box 85 (KL w 3 4))),(3,some (.arr 63 (fh d) w.c.procs)),(4,some (.arr 67 i7 w.ev)),(1,none),(2,none)]
theorem H6 (d:Nat) (w:Wk) (i:Nat) {x:Pc} (hx:w.c.procs[i]? = some x) (h:CI w.c) (hev:w.ev.length≤500000) {Z:Wk} (hZ:iq w i=Z):FSpec prog 86 [ov,Bk i] (HP d w) [3,4] (.i 0) (HR d Z):=by
 refine aS func86 ?_
 have hi:=(List.getElem?_eq_some_iff.1 hx).1
 have hpc:=gf hx
 have hp8:=h.len
 have c2:=ww h hi
 rw [show iq w i=a8 (IX w i).c.procs.length (IX w i) from rfl] at hZ
 unfold IX at hZ c2
 rw [hpc] at hZ c2
 have hrl:=wB w.c.queues x.proc
 obtain ⟨R,hR⟩:∃R,cf w.c.queues x.proc=R:=⟨_,rfl⟩
 have kR:=Dv w.c.queues x.proc hR
 rw [hR] at hZ c2 hrl
 obtain ⟨R1,R2⟩:=R
 dsimp only at hZ c2 hrl
 have kT:=zo d w R1 R2 (by omega)
 have kD:=Fp d w.c.procs i (by omega) hi rfl
 obtain ⟨P,hP⟩:∃P,w.c.procs.eraseIdx i=P:=⟨_,rfl⟩
 rw [hP] at kD hZ c2
 have kN:=Ht d ⟨{ w.c with queues:=R1,procs:=P },w.ev++R2⟩ 5 x.proc (by simp;omega)
 obtain ⟨S,hS⟩:∃S,Wk.note ⟨{ w.c with queues:=R1,procs:=P },w.ev++R2⟩ 5 x.proc=S:=⟨_,rfl⟩
 have hSe:S.ev.length=w.ev.length+R2.length+1:=by rw [←hS,mO];simp
 have hSp:S.c.procs=P:=by rw [←hS];rfl
 rw [hS] at kN hZ c2
 have kS:=lc d S _ (A9 c2 (by omega))
 rw [hZ] at kS
 clear hS hR hZ c2 hP hpc
 repeat' (first
  | refine ah ?_ ?_
  | (refine aa 9 rfl ?_;first
   | (refine cC [] (kR) ?_)
   | (refine cH (qf [(0,0),(1,1),(2,2),(4,1004)]) (kT) ?_)
   | (refine cH (qf [(1,1),(2,1001)]) (kD) ?_)
   | (refine cH (qf [(0,0),(1,1001),(2,1004),(4,1005)]) (kN) ?_)
   | (refine cH (qf [(0,0),(50,1001),(2,1005),(4,1006)]) (kS) ?_))
  | (refine aa 21 rfl ?_;first|refine sx (ay rfl rfl) ?_|refine sx (aJ rfl rfl) ?_)
  | refine af ?_
  | exact ai|refine ae fun hb=>?_
  | (refine aE (qf [(3,1001),(4,1006)]) ?_;exact ab))
def wW:Option ByteArray→List Rs→Bool
 | _,[]=>true
 | o,r :: l=>jr r && xb o r.name && wW (some r.name) l
theorem nR (o:Option ByteArray) (r:Rs) (l:List Rs):wW o (r :: l)=(jr r && xb o r.name && wW (some r.name) l):=rfl
def Bc (l:List Rs):Bool:=decide (l.length≤8) && wW none l
def qT (l:List Rs) (k:Nat):Option ByteArray:=if k=0 then none else (l[k-1]?).map (·.name)
theorem qU (l:List Rs):qT l 0=none:=rfl
theorem je {l:List Rs} {k:Nat} {x:Rs} (h:k<l.length) (hx:l[k]=x):qT l (k+1)=some x.name:=by
 unfold qT
 rw [if_neg (by omega),Nat.add_sub_cancel,List.getElem?_eq_getElem h,hx]
 rfl
theorem td {l:List Rs} {k:Nat} {x:Rs} (h0:0<k) (h:k-1<l.length) (hx:l[k-1]=x):qT l k=some x.name:=by
 unfold qT
 rw [if_neg (by omega),List.getElem?_eq_getElem h,hx]
 rfl
theorem wX:∀(l:List Rs) (o:Option ByteArray),wW o l=true↔(∀x∈l,jr x=true)∧(∀i (h:i+1<l.length),iM (l[i]'(by omega)).name l[i+1].name=true)∧∀n,o=some n→∀x,l.head? = some x→iM n x.name=true
 | [],o=>by simp [wW]
 | x :: l,o=>by
  rw [nR,Bool.and_eq_true,Bool.and_eq_true,wX l (some x.name)]
  constructor
  ·rintro ⟨⟨h1,h2⟩,h3,h4,h5⟩
   refine ⟨fun y hy=>?_,fun i hi=>?_,fun n hn y hy=>?_⟩
   ·rcases List.mem_cons.1 hy with rfl|hy
    ·exact h1
    ·exact h3 y hy
   ·cases i with
    | zero =>
     cases l with
     | nil=>simp at hi
     | cons z l=>exact h5 x.name rfl z rfl
    | succ i =>
     have:=h4 i (by simpa using hi)
     simpa using this
   ·subst hn
    simp only [List.head?_cons,Option.some.injEq] at hy
    subst hy
    exact h2
  ·rintro ⟨h1,h2,h3⟩
   refine ⟨⟨h1 x (by simp),?_⟩,fun y hy=>h1 y (by simp [hy]),fun i hi=>?_,fun n hn y hy=>?_⟩
   ·cases o with
    | none=>rfl
    | some n=>exact h3 n rfl x rfl
   ·have:=h2 (i+1) (by simpa using hi)
    simpa using this
   ·injection hn with hn
    subst hn
    cases l with
    | nil=>cases hy
    | cons z l =>
     simp only [List.head?_cons,Option.some.injEq] at hy
     subst hy
     have:=h2 0 (by simp)
     simpa using this
theorem uz {l:List Rs}:Bc l=true↔CatOk l:=by
 unfold Bc
 rw [Bool.and_eq_true,decide_eq_true_eq,wX]
 exact ⟨fun ⟨h1,h2,h3,_⟩=>⟨h1,h2,h3⟩,fun h=>⟨h.len,h.ok,h.asc,fun _ h=>by cases h⟩⟩
theorem Gl (l:List Rs):FSpec prog 37 [.one (.sl de l)] [] [] (.b (Bc l)) []:=by
  obtain ⟨v,hv⟩:∃v,Bc l=v:=⟨_,rfl⟩
  rw [hv]
  unfold Bc at hv
  refine aS func37 ?_
  refine aH (fun c ρ a w hr=>bh (t:=0) hr rfl) (fun hl0=>?_)
  by_cases h8:8<l.length
  · rw [decide_eq_false (by omega)] at hv
    obtain rfl:false=v:=hv
    repeat' (first
      | refine ah ?_ ?_
      | refine af ?_
      | exact ai|refine ae fun hb=>?_
      | (refine aE (qf []) ?_;exact ab))
  rw [decide_eq_true (by omega),Bool.true_and] at hv
  repeat' (first
    | refine ah ?_ ?_
    | refine af ?_
    | exact ai|refine ae fun hb=>?_)
  refine aj (fun i=>i≤l.length∧wW (qT l i) (l.drop i)=v) (fun i=>bH [] [(0,.c (.sl de l)),(8,.c (.sl de l)),(9,.i l.length),(10,.i i)] []) (fun i=>l.length-i) 0 ⟨Nat.zero_le _,hv⟩ (by exact ao (qf [])) ?_
  rintro i ⟨hi,hs⟩
  by_cases hlt:i<l.length
  · rw [List.drop_eq_getElem_cons hlt,nR] at hs
    rcases Nat.eq_zero_or_pos i with h0|h0
    · subst h0
      rw [qU] at hs
      repeat' (first
        | refine ah ?_ ?_
        | refine aa 9 rfl (cB [] (wH l[0]) ?_)
        | refine af ?_
        | exact ai|(refine ae fun hb=>?_;first|(simp at hb;done)|skip))
      all_goals first
        | (obtain rfl:false=v
           · (rw [←hs];simp [*];done)
           refine aE (qf []) ?_;exact ab)
        | (refine ⟨1,⟨by omega,by rw [←hs,je hlt rfl];simp [*,xb]⟩,by omega,?_⟩
           exact ao (qf []))
    · obtain ⟨m,hm⟩:∃m,l[i-1]=m:=⟨_,rfl⟩
      have hgm:l[((i:Int)-1).toNat]? = some m:=by rw [show ((i:Int)-1).toNat=i-1 by omega,List.getElem?_eq_getElem (by omega),hm]
      rw [td h0 (by omega) hm] at hs
      repeat' (first
        | refine ah ?_ ?_
        | refine aa 9 rfl (cB [] (wH l[i]) ?_)
        | refine af ?_
        | exact ai|(refine ae fun hb=>?_;first|(omega)|skip))
      all_goals first
        | (obtain rfl:false=v
           · (rw [←hs];simp [*,xb];done)
           refine aE (qf []) ?_;exact ab)
        | (refine ⟨i+1,⟨by omega,by rw [←hs,je hlt rfl];simp [*,xb]⟩,by omega,?_⟩
           exact ao (qf []))
  · rw [List.drop_eq_nil_of_le (by omega)] at hs
    obtain rfl:true=v:=hs
    repeat' (first
      | refine ah ?_ ?_
      | refine af ?_
      | exact ai|refine ae fun hb=>?_
      | (refine aE (qf []) ?_;exact ab))
theorem Jg (l:List Rs):FSpec prog 39 [.one (.sl de l)] [] [] (.b (Bc l)) []:=by
  obtain ⟨v,hv⟩:∃v,Bc l=v:=⟨_,rfl⟩
  rw [hv]
  unfold Bc at hv
  refine aS func39 ?_
  refine aH (fun c ρ a w hr=>bh (t:=0) hr rfl) (fun hl0=>?_)
  by_cases h8:8<l.length
  · rw [decide_eq_false (by omega)] at hv
    obtain rfl:false=v:=hv
    repeat' (first
      | refine ah ?_ ?_
      | refine af ?_
      | exact ai|refine ae fun hb=>?_
      | (refine aE (qf []) ?_;exact ab))
  rw [decide_eq_true (by omega),Bool.true_and] at hv
  repeat' (first
    | refine ah ?_ ?_
    | refine af ?_
    | exact ai|refine ae fun hb=>?_)
  refine aj (fun i=>i≤l.length∧wW (qT l i) (l.drop i)=v) (fun i=>bH [] [(0,.c (.sl de l)),(3,.i i)] []) (fun i=>l.length-i) 0 ⟨Nat.zero_le _,hv⟩ (by exact ao (qf [])) ?_
  rintro i ⟨hi,hs⟩
  by_cases hlt:i<l.length
  · rw [List.drop_eq_getElem_cons hlt,nR] at hs
    rcases Nat.eq_zero_or_pos i with h0|h0
    · subst h0
      rw [qU] at hs
      repeat' (first
        | refine ah ?_ ?_
        | refine aa 9 rfl (cB [] (qc l[0]) ?_)
        | refine af ?_
        | exact ai|(refine ae fun hb=>?_;first|(simp at hb;done)|skip))
      all_goals first
        | (obtain rfl:false=v
           · (rw [←hs];simp [*];done)
           refine aE (qf []) ?_;exact ab)
        | (refine ⟨1,⟨by omega,by rw [←hs,je hlt rfl];simp [*,xb]⟩,by omega,?_⟩
           exact ao (qf []))
    · obtain ⟨m,hm⟩:∃m,l[i-1]=m:=⟨_,rfl⟩
      have hgm:l[((i:Int)-1).toNat]? = some m:=by rw [show ((i:Int)-1).toNat=i-1 by omega,List.getElem?_eq_getElem (by omega),hm]
      rw [td h0 (by omega) hm] at hs
      repeat' (first
        | refine ah ?_ ?_
        | refine aa 9 rfl (cB [] (qc l[i]) ?_)
        | refine af ?_
        | exact ai|(refine ae fun hb=>?_;first|(omega)|skip))
      all_goals first
        | (obtain rfl:false=v
           · (rw [←hs];simp [*,xb];done)
           refine aE (qf []) ?_;exact ab)
        | (refine ⟨i+1,⟨by omega,by rw [←hs,je hlt rfl];simp [*,xb]⟩,by omega,?_⟩
           exact ao (qf []))
  · rw [List.drop_eq_nil_of_le (by omega)] at hs
    obtain rfl:true=v:=hs
    repeat' (first
      | refine ah ?_ ?_
      | refine af ?_
      | exact ai|refine ae fun hb=>?_
      | (refine aE (qf []) ?_;exact ab))
theorem Jh (l:List Rs) {v:Bool} (hv:Bc l=v):FSpec prog 15 [.one (.sl de l)] [] [] (.tup [.one (.sl dt (bif v then l.map ln else [])),iV (bif v then 0 else 1)]) []:=by
 have kV:=Gl l
 rw [hv] at kV
 refine aS func15 ?_
 cases v with
 | false =>
  repeat' (first
   | refine ah ?_ ?_
   | refine aa 9 rfl (cB [] (kV) ?_)
   | refine af ?_
   | exact ai|refine ae fun hb=>?_
   | (refine fL (qf []) ?_;exact ab))
 | true =>
  have hc:=uz.1 hv
  have h8:=hc.len
  repeat' (first
   | refine ah ?_ ?_
   | refine aa 9 rfl (cB [] (kV) ?_)
   | refine af ?_
   | exact ai|refine ae fun hb=>?_)
  refine b8 4 1000 81 dt rfl rfl rfl ?_
  refine aj (fun y:Nat×List Qu=>y.1≤l.length∧y.2=(l.take y.1).map ln) (fun y=>bH [1000] [(4,.c (.own 1000)),(12,.c (.sl de l)),(13,.i l.length),(14,.i y.1)] [(1000,.arr 81 dt y.2)]) (fun y=>l.length-y.1) (0,[]) ⟨Nat.zero_le _,rfl⟩ (by exact ao (qf [])) ?_
  rintro ⟨i,T⟩ ⟨hi,hT⟩
  dsimp only at *
  have hTl:T.length=i:=by rw [hT];simp;omega
  by_cases hlt:i<l.length
  ·obtain ⟨r,hr⟩:∃r,l[i]? = some r:=⟨_,List.getElem?_eq_getElem hlt⟩
   have er:l[i]=r:=(List.getElem?_eq_some_iff.1 hr).2
   have kN:=I6 r (er▸hc.ok _ (List.getElem_mem hlt))
   repeat' (first
    | refine ah ?_ ?_
    | (refine aa 8 rfl ?_;refine sx (aw rfl rfl (aL rfl rfl) (Ga [ln r] rfl rfl rfl) rfl aR aR) ?_)
    | refine aa 9 rfl (cC [] (kN) ?_)
    | refine af ?_
    | exact ai|(refine ae fun hb=>?_;first|(exact absurd hb (by decide))|skip))
   refine ⟨(i+1,T++[ln r]),⟨by dsimp only;omega,?_⟩,by dsimp only;omega,?_⟩
   ·dsimp only
    rw [hT,List.take_succ_eq_append_getElem hlt,er]
    simp
   ·exact ao (qf [(1000,29)])
  ·obtain rfl:T=l.map ln:=by rw [hT,List.take_of_length_le (by omega)]
   repeat' (first
    | refine ah ?_ ?_
    | refine af ?_
    | exact ai|refine ae fun hb=>?_
    | (refine fL (qf []) ?_;exact ab))
def Ji (w:World) (n:Nat) (p:Nat→Bool) (e:Ending) (w':World):Prop :=
 ∃k:Nat,e = .returned (.int .i64 (k:Int))∧k≤n∧(∀t,t<k→p t=false)∧(∀t,k≤t→t<n→p t=true)∧Below w.heap.size w w'
theorem yn (g:FuncId) (cb:Array Value) (n:Nat) (p:Nat→Bool) (w:World) (eg:∀args w,(callFunc g args).run prog w = .ok (.enter g args) w) (hn:n<4611686018427387904)
  (hf:∀(i:Nat) W,i<n→Below w.heap.size w W→Calls prog g (#[.int .i64 (i:Int)]++cb) W (lC W (.bool (p i)))) (hmono:∀a b,a≤b→b<n→p a=true→p b=true) :
  Calls prog 309 #[.int .i64 (n:Int),.func (.func g) #[] cb] w (Ji w n p):=by
 have HF:=Lib.hid hf
 have HM:=Lib.hid hmono
 clear hf hmono
 go_enter func309,ntmps309
 go_wp2_with fail
 go_loopg [5,6] n (fun m v5 v6 wq=>∃lo hi:Nat,v5 = .int .i64 (lo:Int)∧v6 = .int .i64 (hi:Int)∧lo≤hi∧hi≤n∧hi≤lo+m∧Hid ((∀t,t<lo→p t=false)∧(∀t,hi≤t→t<n→p t=true))∧Below w.heap.size w wq)
 case atStart=>exact ⟨0,n,rfl,rfl,Nat.zero_le _,Nat.le_refl _,by omega,Lib.hid ⟨fun _ h=>absurd h (by omega),fun _ h1 h2=>absurd h1 (by omega)⟩,Below.refl _ _⟩
 case round =>
  obtain ⟨lo,hi,rfl,rfl,hlh,hin,hg,hI,hbw⟩:=hrel
  by_cases hlt:lo<hi
  ·have hc:=HF.out ((lo+hi) / 2) wr (by omega) hbw
   rw [show (((lo+hi) / 2:Nat):Int)=((lo:Int)+(hi:Int)) / 2 by omega] at hc
   obtain ⟨q,hq⟩:∃q,p ((lo+hi) / 2)=q:=⟨_,rfl⟩
   have HQ:=Lib.hid hq
   rw [hq] at hc
   have HC:=Lib.hid hc
   clear hq hc
   cases q with
   | false =>
    go_wp2_with fail
    refine HC.out.mono ?_
    rintro e w2 ⟨rfl,hb2⟩
    go_wp2_with fail
    go_roundg (hi-((lo+hi) / 2+1))
    case measure=>omega
    case rel =>
     refine ⟨(lo+hi) / 2+1,hi,by go_num,rfl,by omega,hin,by omega,Lib.hid ⟨fun t ht=>?_,hI.out.2⟩,hbw.trans (hb2.mono hbw.size)⟩
     cases hpt:p t with
     | false=>rfl
     | true =>
      have:=HM.out t ((lo+hi) / 2) (by omega) (by omega) hpt
      rw [HQ.out] at this
      cases this
   | true =>
    go_wp2_with fail
    refine HC.out.mono ?_
    rintro e w2 ⟨rfl,hb2⟩
    go_wp2_with fail
    go_roundg ((lo+hi) / 2-lo)
    case measure=>omega
    case rel =>
     exact ⟨lo,(lo+hi) / 2,rfl,by go_num,by omega,by omega,by omega,Lib.hid ⟨hI.out.1,fun t h1 h2=>HM.out ((lo+hi) / 2) t h1 h2 HQ.out⟩,hbw.trans (hb2.mono hbw.size)⟩
  ·obtain rfl:hi=lo:=by omega
   go_wp2
   go_ret
   exact ⟨hi,rfl,hin,hI.out.1,hI.out.2,hbw⟩
def FM (l:Ct) (n:Bs):Nat:=l.countP fun r=>decide (r.key<n)
theorem yo (A:Option Addr) (B cap:Nat) (l:Ct) (n:ByteArray) (w:World) (hr:RowsAt de w (Lo B) A l) (g1 g2:Nat)
  (h1:w.cell? ⟨g1,0,none⟩=some (.slice A l.length cap)) (h2:w.cell? ⟨g2,0,none⟩=some (.string n)) (k:Nat) (hlt:k<l.length) :
  Calls prog 310 #[.int .i64 (k:Int),.pointer (some ⟨g1,0,none⟩),.pointer (some ⟨g2,0,none⟩)] w (lC w (.bool (!Op.bytesLess l[k].key n.toList))):=by
 obtain ⟨⟨nm,kd,u,h⟩,hx⟩:∃x,l[k]=x:=⟨_,rfl⟩
 obtain ⟨b,off,rfl,hbl,hc0,hc1,hc2,hc3⟩:=sW hr hlt hx
 rw [hx]
 unfold Rs.key
 clear hx
 have hlti:(k:Int)<(l.length:Int):=by omega
 go_enter func310,ntmps310
 go_wp2
 go_quiet (fail)
 go_wp2
 go_ret
 exact ⟨rfl,bL (Below.refl _ _) _⟩
def Gm (w:World) (l:Ct) (n:Bs) (e:Ending) (w':World):Prop :=
 ∃(k:Nat) (b:Bool),e = .returned (.tuple #[.int .i64 (k:Int),.bool b])∧k≤l.length∧(∀t (h:t<l.length),t<k→l[t].key<n)∧(∀t (h:t<l.length),k≤t→¬l[t].key<n)∧(b=true↔∃h:k<l.length,l[k].key=n)∧Below w.heap.size w w'
theorem Bd (A:Option Addr) (B cap:Nat) (l:Ct) (n:ByteArray) (w:World) (hs:Sorted l) (hm:l.length≤1000) (hB:B≤w.heap.size) (hr:RowsAt de w (Lo B) A l) :
  Calls prog 257 #[.slice A l.length cap,.string n] w (Gm w l n.toList):=by
 obtain ⟨p,hp⟩:∃p:Nat→Bool,p=fun i=>if h:i<l.length then !Op.bytesLess l[i].key n.toList else true:=⟨_,rfl⟩
 have HS:=Lib.hid hs
 have HSr:∀(i:Nat) W,i<l.length→Below (w.heap.size+2) ((w.alloc (.cells #[.slice A l.length cap] 22)).alloc (.cells #[.string n] 9)) W→
   Calls prog 310 (#[.int .i64 (i:Int)] ++ #[.pointer (some ⟨w.heap.size,0,none⟩),.pointer (some ⟨w.heap.size+1,0,none⟩)]) W (lC W (.bool (p i))):=by
  intro i W hi hW
  have hb:=((Below.refl w.heap.size w).alloc (Nat.le_refl _) (.cells #[.slice A l.length cap] 22)).alloc (by simp) (.cells #[.string n] 9)
  have h:=yo A B cap l n W (hr.below (B'':=B) (hb.trans (hW.mono (by omega))) hB (Nat.le_refl _)) w.heap.size (w.heap.size+1) ?_ ?_ i hi
  ·rw [hp]
   simp only [dif_pos hi]
   exact h
  ·rw [hW.cell (p:=⟨w.heap.size,0,none⟩) (by show w.heap.size<_;omega),World.cell?_alloc_lt _ _ _ (by simp)]
   exact dP w _ _ 0
  ·rw [hW.cell (p:=⟨w.heap.size+1,0,none⟩) (by show w.heap.size+1<_;omega)]
   simp
 have hmono:∀a b,a≤b→b<l.length→p a=true→p b=true:=by
  intro a b hab hb
  rw [hp]
  simp only [dif_pos hb,dif_pos (show a<l.length by omega),bytesLess_eq]
  simp only [Bool.not_eq_true',decide_eq_false_iff_not]
  intro h1 h2
  rcases Nat.eq_or_lt_of_le hab with rfl|hlt
  ·exact h1 h2
  ·exact h1 (List.lt_trans (hs.lt b a hb hlt) h2)
 have HM:=Lib.hid hmono
 have HSR:=Lib.hid HSr
 have HP:=Lib.hid hp
 have HR:=Lib.hid hr
 clear hs HSr hmono hp hr
 have hmf:∀(fn:Fn) (first cap:Array Value) (w:World),(Instr.makeFunc fn first cap).run prog w = .ok (.func fn first cap) w:=fun _ _ _ _=>rfl
 go_enter func257,ntmps257
 go_wp2_with fail
 refine (yn 310 _ l.length p _ (fun _ _=>by kernel_rfl) (by omega) (fun i W hi hW=>HSR.out i W hi (by simpa using hW)) HM.out).mono ?_
 rintro e w2 ⟨k,rfl,hk,hlo,hhi,hb2⟩
 have hb2':Below (w.heap.size+2) ((w.alloc (.cells #[.slice A l.length cap] 22)).alloc (.cells #[.string n] 9)) w2:=by simpa using hb2
 have hbel:Below w.heap.size w w2:=(((Below.refl w.heap.size w).alloc (Nat.le_refl _) _).alloc (by simp) _).trans (hb2'.mono (by omega))
 have hz0:w2.cell? ⟨w.heap.size,0,none⟩=some (.slice A l.length cap):=by
  rw [hb2'.cell (p:=⟨w.heap.size,0,none⟩) (by show w.heap.size<_;omega),World.cell?_alloc_lt _ _ _ (by simp)]
  exact dP w _ _ 0
 have hz1:w2.cell? ⟨w.heap.size+1,0,none⟩=some (.string n):=by
  rw [hb2'.cell (p:=⟨w.heap.size+1,0,none⟩) (by show w.heap.size+1<_;omega)]
  simp
 have hr2:=HR.out.below (B'':=w2.heap.size) hbel hB (Nat.le_trans hB hbel.size)
 have h1:∀t (h:t<l.length),t<k→l[t].key<n.toList:=by
  intro t ht hlt
  have:=hlo t hlt
  rw [HP.out] at this
  simpa [dif_pos ht,bytesLess_eq] using this
 have h2:∀t (h:t<l.length),k≤t→¬l[t].key<n.toList:=by
  intro t ht hle
  have:=hhi t hle ht
  rw [HP.out] at this
  simpa [dif_pos ht,bytesLess_eq] using this
 have H1:=Lib.hid h1
 have H2:=Lib.hid h2
 have HBel:=Lib.hid hbel
 clear h1 h2 hlo hhi hb2 hb2' hbel
 by_cases hlt:k<l.length
 ·obtain ⟨⟨nm,kd,u,h⟩,hx⟩:∃x,l[k]=x:=⟨_,rfl⟩
  obtain ⟨b,off,rfl,hbl,hc0,hc1,hc2,hc3⟩:=sW hr2 hlt hx
  have HX:=Lib.hid hx
  clear hx hr2
  have hlti:(k:Int)<(l.length:Int):=by omega
  go_wp2
  go_quiet (fail)
  go_wp2
  go_ret2
  refine ⟨k,_,rfl,hk,H1.out,H2.out,?_,bL HBel.out _⟩
  constructor
  ·intro h
   exact ⟨hlt,by rw [HX.out];exact beq_iff_eq.1 h⟩
  ·rintro ⟨_,h⟩
   rw [HX.out] at h
   exact beq_iff_eq.2 h
 ·have hd:decide (k<l.length)=false:=decide_eq_false hlt
  have hd2:decide ((k:Int)<(l.length:Int))=false:=decide_eq_false (by omega)
  go_wp2
  go_quiet (fail)
  go_wp2
  go_ret2
  exact ⟨k,false,rfl,hk,H1.out,H2.out,by simp [hlt],bL HBel.out _⟩
theorem uA (A:Option Addr) (B cap:Nat) (l:Ct) (n:ByteArray) (w:World) (hs:Sorted l) (hm:l.length≤1000) (hB:B≤w.heap.size) (hr:RowsAt de w (Lo B) A l) :
  Calls prog 257 #[.slice A l.length cap,.string n] w (Gm w l n.toList):=Bd A B cap l n w hs hm hB hr
end Go.Proofs.YtjndcdcbjidocaaGreatDoor
