/- Part 16 of 24 of the proof of rollbackOptions_holds (no condition). -/
import Derived.Test.YtdaajdflefnjfaaGreatK14
set_option linter.unusedVariables false
set_option linter.unusedSimpArgs false
set_option maxRecDepth 100000
set_option maxHeartbeats 64000000
namespace Go.Proofs.YtdaajdflefnjfaaGreat
open Go.RowKit
theorem Eff.trans {a b c:Qu} {p:Pr} (h:Eff a b p) (k:Eff b c p):Eff a c p:=by
 rcases h with ⟨h1,h2⟩|⟨x,h1,h2,h3⟩
 ·rcases k with ⟨k1,k2⟩|⟨x,k1,k2,k3⟩
  ·exact .inl ⟨k1.trans h1,k2.trans h2⟩
  ·exact .inr ⟨x,h2.symm.trans k1,k2,k3⟩
 ·rcases k with ⟨k1,k2⟩|⟨y,k1,_⟩
  ·exact .inr ⟨x,h1,k1.trans h2,k2.trans h3⟩
  ·rw [h3] at k1;cases k1
theorem Out.trans {a b c:Qu} {p:Pr} (h:Out a b p) (k:Out b c p):Out a c p :=
 ⟨k.ok,k.res.trans h.res,fun r hr=>(h.eff r hr).trans (k.eff r hr),fun x hx hp=>by
  obtain ⟨y,hy,e1,e2⟩:=k.prio x hx hp
  obtain ⟨z,hz,e3,e4⟩:=h.prio y hy (by rw [e1];exact hp)
  exact ⟨z,hz,e3.trans e1,e4.trans e2⟩⟩
theorem TP.refl {t:List Qu} (hv:eO t=true) (p:Pr):TP t t p:=⟨hv,rfl,fun _ hn=>Out.same p (dK hv (dH hn).1),fun _ hr=>.inr hr⟩
theorem TP.trans {a b c:List Qu} {p:Pr} (h:TP a b p) (k:TP b c p):TP a c p :=
 ⟨k.v,k.nm.trans h.nm,fun n hn=>(h.out n hn).trans (k.out n (by rw [h.hasE];exact hn)),fun r hr=>by
  rcases k.sub r hr with e|e
  ·exact .inl e
  ·exact h.sub r e⟩
structure WS (w w':Wk) (p:Pr) (N:ByteArray→Prop):Prop where
 tp:TP w.c.queues w'.c.queues p
 oth:∀m,¬N m→aU w.c.queues m=true→bd w'.c.queues m=bd w.c.queues m
 procs:w'.c.procs=w.c.procs
 now:w'.c.now=w.c.now
theorem WS.refl {w:Wk} (hv:eO w.c.queues=true) (p:Pr) (N:ByteArray→Prop):WS w w p N:=⟨TP.refl hv p,fun _ _ _=>rfl,rfl,rfl⟩
theorem WS.trans {a b c:Wk} {p:Pr} {N:ByteArray→Prop} (h:WS a b p N) (k:WS b c p N):WS a c p N :=
 ⟨h.tp.trans k.tp,fun m hm hh=>(k.oth m hm (by rw [h.tp.hasE];exact hh)).trans (h.oth m hm hh),k.procs.trans h.procs,k.now.trans h.now⟩
theorem WS.mono {a b:Wk} {p:Pr} {N M:ByteArray→Prop} (h:WS a b p N) (hm:∀m,N m→M m):WS a b p M:=⟨h.tp,fun m hM hh=>h.oth m (fun e=>hM (hm m e)) hh,h.procs,h.now⟩
theorem WS.take {w:Wk} {t:List Qu} {ev:List Ev} {p:Pr} {n:ByteArray} (hv:eO w.c.queues=true) (h:TStep w.c.queues t p n):WS w (w.take t ev) p (· = n):=⟨h.tp hv,fun m hm hh=>h.oth m hm hh,rfl,rfl⟩
theorem IM {r:Rs} {l a:Am} (hs:be r=true) (ha:aC r a=true) (hc:aY r l a=false) (hl:l=⟨0,0⟩∨aC r l=true) :
  aC r (bG r l a)=true∧aY r (bG r l a) l=true∧aY r (bG r l a) a=true∧bG r l a≠l:=by
 rcases hl with rfl|hl
 ·rw [rY ha]
  have p0:bK r ⟨0,0⟩=true:=by unfold bK aF;rw [hs];rfl
  refine ⟨ha,?_,rS ha,?_⟩
  ·unfold aY;rw [cJ ha,p0];rfl
  ·exact bq.1 (dT ha)
 ·exact AV hl ha hc
theorem sC {t:List Qu} {x:Pc} (h:PStat t x) (n:ByteArray):iQ x n=⟨0,0⟩∨aC (bd t n).res (iQ x n)=true:=by
 by_cases e:iQ x n=⟨0,0⟩
 ·exact .inl e
 ·exact .inr (h.hf n e).2
theorem pA {t:List Qu} (hv:eO t=true) {n:ByteArray} (h:aU t n=true):be (bd t n).res=true:=(aH (dK hv (dH h).1)).hv.shp
theorem x7 {w:Wk} {x:Pc} {n:ByteArray} {a:Am} (hv:eO w.c.queues=true) (hn:aU w.c.queues n=true) (hs:PStat w.c.queues x) (ha:aC (bd w.c.queues n).res a=true) (hf:FitA w.c.queues n x a) :
  WS w (bL w x n) x.proc (· = n)∧FitR (bL w x n).c.queues n x:=by
 have same:FitR w.c.queues n x→WS w (bL w x n) x.proc (· = n)∧FitR (bL w x n).c.queues n x:=by
  intro h
  have e1:iy w x.proc n=w:=by unfold iy;rw [h.w];rfl
  have e2:bL w x n=w:=by
   unfold bL cO
   rw [e1,decide_eq_true h.h]
   rfl
  rw [e2]
  exact ⟨WS.refl hv _ _,h⟩
 rcases hf with ⟨_,h⟩|⟨hc,⟨h1,h2⟩|⟨h1,h2,_⟩⟩
 ·exact same h
 ·obtain ⟨j1,j2,_,j4⟩:=IM (pA hv hn) ha hc (sC hs n)
  have e1:iy w x.proc n=w:=by unfold iy;rw [h2];rfl
  have hne:aj (bd w.c.queues n).holds x.proc≠ay x.led.entries n:=by rw [h1];exact j4
  have h0:aj (bd w.c.queues n).holds x.proc≠⟨0,0⟩:=by rw [h1];exact bq.1 (dT j1)
  obtain ⟨e,hst,k1,k2⟩:=px (a:=⟨n,ay x.led.entries n⟩) hv hn h0 h2 (by rw [h1];exact j2)
  have e2:bL w x n=eY w x.proc ⟨n,ay x.led.entries n⟩:=by
   unfold bL cO
   rw [e1,decide_eq_false hne]
   rfl
  rw [e2]
  exact ⟨WS.take hv hst,⟨k1,k2⟩⟩
 ·obtain ⟨e,hst,k1,k2⟩:=sr (p:=x.proc) hv hn (by rw [h2];rfl)
  have e1:iy w x.proc n=lW w x.proc n:=by unfold iy;rw [h2];rfl
  have hq:aj (bd (lW w x.proc n).c.queues n).holds x.proc=ay x.led.entries n:=k1.trans h1
  have e2:bL w x n=lW w x.proc n:=by
   unfold bL cO
   rw [e1,decide_eq_true hq]
   rfl
  rw [e2]
  exact ⟨WS.take hv hst,⟨hq,k2⟩⟩
theorem zS {l:List Tm} {n:ByteArray} {a:Tm} (h:dL l n=some a):a∈l∧a.name=n:=by
 unfold dL at h
 exact ⟨List.mem_of_find?_eq_some h,aV.1 (by have:=List.find?_some h;simpa using this)⟩
theorem jM {l:List Tm} {n:ByteArray}:dL l n=none↔∀a∈l,a.name≠n:=by
 unfold dL
 rw [List.find?_eq_none]
 constructor
 ·intro h a ha e
  exact h a ha (aV.2 e)
 ·intro h a ha e
  exact h a ha (aV.1 e)
theorem dI (a:Tm) (l:List Tm) (n:ByteArray):dL (a :: l) n=bif aT a.name n then some a else dL l n:=by
 unfold dL
 rw [List.find?_cons]
 cases aT a.name n <;> rfl
def Hd (l:List Tm):Prop:=l.Pairwise fun a b=>a.name≠b.name
def Rsl (t:List Qu) (l:List Tm):Prop:=∀a∈l,aU t a.name=true∧aC (bd t a.name).res a.am=true
theorem uj {t:List Qu}:∀{l:List Tm},gQ t l=0↔Rsl t l
 | []=>by simp [gQ,Rsl]
 | a :: l=>by
  unfold gQ
  cases h1:aU t a.name with
  | false =>
   simp only [Bool.not_false,cond_true]
   constructor
   ·intro h;cases h
   ·intro h;have:=(h a (by simp)).1;rw [h1] at this;cases this
  | true =>
   simp only [Bool.not_true,cond_false]
   cases h2:aC (bd t a.name).res a.am with
   | false =>
    simp only [Bool.not_false,cond_true]
    constructor
    ·intro h;cases h
    ·intro h;have:=(h a (by simp)).2;rw [h2] at this;cases this
   | true =>
    simp only [Bool.not_true,cond_false]
    rw [uj]
    constructor
    ·intro h b hb
     rcases List.mem_cons.1 hb with rfl|hb
     ·exact ⟨h1,h2⟩
     ·exact h b hb
    ·intro h b hb;exact h b (by simp [hb])
theorem Rsl.tp {t t':List Qu} {p:Pr} {l:List Tm} (hs:TP t t' p) (h:Rsl t l):Rsl t' l:=fun a ha=>by
 obtain ⟨h1,h2⟩:=h a ha
 exact ⟨by rw [hs.hasE];exact h1,by rw [(hs.out _ h1).res];exact h2⟩
theorem FitR.eq {t t':List Qu} {n:ByteArray} {x:Pc} (h:FitR t n x) (e:bd t' n=bd t n):FitR t' n x:=⟨by rw [e];exact h.h,by rw [e];exact h.w⟩
theorem FitA.eq {t t':List Qu} {n:ByteArray} {x:Pc} {a:Am} (h:FitA t n x a) (e:bd t' n=bd t n):FitA t' n x a:=by
 unfold FitA jn at *
 rw [e]
 rcases h with ⟨h1,h2⟩|h
 ·exact .inl ⟨h1,h2.eq e⟩
 ·exact .inr h
theorem FitW.eq {t t':List Qu} {n:ByteArray} {x:Pc} {l:List Tm} (h:FitW t n x l) (e:bd t' n=bd t n):FitW t' n x l:=by
 unfold FitW at *
 cases hf:dL l n with
 | none=>rw [hf] at h;exact h.eq e
 | some a=>rw [hf] at h;exact h.eq e
def DrT (x:Pc):List Tm→Wk→Prop
 | [],_=>True
 | a :: l,w=>eO w.c.queues=true∧aU w.c.queues a.name=true∧DrT x l (bL w x a.name)
theorem sD:∀(l:List Tm) (w:Wk) (x:Pc),eO w.c.queues=true→PStat w.c.queues x→Hd l→Rsl w.c.queues l→(∀n,aU w.c.queues n=true→FitW w.c.queues n x l)→
  WS w (eG x l w) x.proc (fun _=>True)∧(∀n,aU w.c.queues n=true→FitR (eG x l w).c.queues n x)∧DrT x l w
 | [],w,x,hv,_,_,_,hf=>⟨WS.refl hv _ _,fun n hn=>hf n hn,trivial⟩
 | a :: l,w,x,hv,hs,hnd,hr,hf=>by
  obtain ⟨h1,h2⟩:=List.pairwise_cons.1 hnd
  obtain ⟨ha1,ha2⟩:=hr a (by simp)
  have hfa:FitA w.c.queues a.name x a.am:=by
   have:=hf a.name ha1
   unfold FitW at this
   rw [dI,aV.2 rfl] at this
   exact this
  obtain ⟨k1,k2⟩:=x7 hv ha1 hs ha2 hfa
  have ih:=sD l (bL w x a.name) x k1.tp.v (hs.tp k1.tp) h2 ((show Rsl w.c.queues l from fun b hb=>hr b (by simp [hb])).tp k1.tp) (fun n hn=>by
   rw [k1.tp.hasE] at hn
   by_cases e:n=a.name
   ·subst e
    unfold FitW
    rw [jM.2 (fun b hb e=>h1 b hb e.symm)]
    exact k2
   ·have e1:=k1.oth n e hn
    have h3:=hf n hn
    unfold FitW at h3
    rw [dI,cc.2 (fun h=>e h.symm)] at h3
    exact FitW.eq (l:=l) h3 e1)
  exact ⟨(k1.mono fun _ _=>trivial).trans ih.1,fun n hn=>ih.2.1 n (by rw [k1.tp.hasE];exact hn),hv,ha1,ih.2.2⟩
theorem EH {t:List Qu} {L:List Pr} (hc:∀r∈aD t,r∈L) (hl:L.length≤8) {p:Pr} (hp:p∈L):(aD t).length≤7∨p∈aD t:=by
 by_cases h:p∈aD t
 ·exact .inr h
 ·left
  have:=ir (l:=p :: aD t) (m:=L) (List.nodup_cons.2 ⟨h,fE t⟩) fun r hr=>by
   rcases List.mem_cons.1 hr with rfl|hr
   ·exact hp
   ·exact hc r hr
  rw [List.length_cons] at this
  omega
theorem EI {t:List Qu} {L:List Pr} (hv:eO t=true) (hc:∀r∈aD t,r∈L) (hl:L.length≤8) {p:Pr} (hp:p∈L) {n:ByteArray} (hn:aU t n=true) (hw:ai (bd t n) p=none) :
  aj (bd t n).holds p≠⟨0,0⟩∨(bd t n).holds.length+(bd t n).waits.length<8:=by
 by_cases h0:aj (bd t n).holds p=⟨0,0⟩
 ·right
  have hq:=dH hn
  have hd:=aH (dK hv hq.1)
  have hno:=dR.1 hw
  have hnd:(dx (bd t n).holds++bC (bd t n).waits).Nodup:=by
   rw [List.nodup_append]
   refine ⟨hd.hv.asc.imp fun {a b} (hab:f8 a b) (e:a=b)=>by rw [e] at hab;exact bH b hab,hd.wnd,?_⟩
   intro u hu v hv2 e
   obtain ⟨x,hx,rfl⟩:=List.mem_map.1 hu
   obtain ⟨y,hy,rfl⟩:=List.mem_map.1 hv2
   have h1:=ls hd.hv.asc hx
   rw [e,(hd.wok y hy).2.2] at h1
   exact bq.1 (dT (hd.hv.fit x hx).2) h1.symm
  have hpn:p ∉ dx (bd t n).holds++bC (bd t n).waits:=by
   intro hm
   rcases List.mem_append.1 hm with hm|hm
   ·obtain ⟨x,hx,rfl⟩:=List.mem_map.1 hm
    have h1:=ls hd.hv.asc hx
    rw [h0] at h1
    exact bq.1 (dT (hd.hv.fit x hx).2) h1.symm
   ·obtain ⟨y,hy,e⟩:=List.mem_map.1 hm
    exact hno y (by simp [hy]) e
  have hsub:∀r∈p :: (dx (bd t n).holds++bC (bd t n).waits),r∈L:=by
   intro r hr
   rcases List.mem_cons.1 hr with rfl|hr
   ·exact hp
   ·refine hc r ?_
    unfold aD
    rw [cb,gy]
    refine ⟨_,hq.1,?_⟩
    unfold eT
    rw [cb]
    rcases List.mem_append.1 hr with hr|hr
    ·exact List.mem_append.2 (.inl hr)
    ·refine List.mem_append.2 (.inr ?_)
     show r∈bC ((bd t n).convs++(bd t n).waits)
     unfold bC at hr ⊢
     rw [List.map_append]
     exact List.mem_append.2 (.inr hr)
  have:=ir (List.nodup_cons.2 ⟨hpn,hnd⟩) hsub
  rw [List.length_cons,List.length_append] at this
  unfold dx bC at this
  rw [List.length_map,List.length_map] at this
  omega
 ·exact .inl h0
theorem uk (L:List Pr) (hl:L.length≤8):∀(l pre:List Tm) (w:Wk) (x:Pc),eO w.c.queues=true→PStat w.c.queues x→x.proc∈L→(∀r∈aD w.c.queues,r∈L)→(0≤x.req.prio∧x.req.prio≤7)→Hd (pre++l)→Rsl w.c.queues l→
  (∀n,aU w.c.queues n=true→(dL l n=none→FitW w.c.queues n x (pre++l))∧(∀a,dL l n=some a→FitR w.c.queues n x))→
  WS w (dj x.proc x.req.prio l w) x.proc (fun _=>True)∧(∀n,aU w.c.queues n=true→FitW (dj x.proc x.req.prio l w).c.queues n x (pre++l))∧∀r∈aD (dj x.proc x.req.prio l w).c.queues,r∈L
 | [],pre,w,x,hv,_,_,hc,_,_,_,hf=>⟨WS.refl hv _ _,fun n hn=>(hf n hn).1 rfl,hc⟩
 | a :: l,pre,w,x,hv,hs,hpL,hc,hpr,hnd,hr,hf=>by
  have hnd2:Hd (a :: l):=(List.pairwise_append.1 hnd).2.1
  obtain ⟨h1,h2⟩:=List.pairwise_cons.1 hnd2
  obtain ⟨ha1,ha2⟩:=hr a (by simp)
  have hfr:FitR w.c.queues a.name x:=(hf a.name ha1).2 a (by rw [dI,aV.2 rfl];rfl)
  obtain ⟨e,hst,ho⟩:=CD (a:=a) (prio:=x.req.prio) hv ha1 hs.vp hpr ha2 hfr.w (EI hv hc hl hpL ha1 hfr.w) (EH hc hl hpL)
  have hws:=WS.take (ev:=(bI w.c.queues x.proc a x.req.prio).2.1) hv hst
  have hc2:∀r∈aD (bI w.c.queues x.proc a x.req.prio).1,r∈L:=fun r hr2=>by
   rcases hst.sub r hr2 with e|e
   ·rw [e];exact hpL
   ·exact hc r e
  have hres:=hst.out.res
  have hfa:FitA (bI w.c.queues x.proc a x.req.prio).1 a.name x a.am:=by
   unfold FitA jn
   rw [hres]
   have hh:=hfr.h
   rcases ho.own with ⟨k1,k2⟩|⟨k1,k2⟩
   ·rw [hh] at k1
    exact .inl ⟨k1,hfr.eq k2⟩
   ·rw [hh] at k1 k2
    rcases k2 with ⟨k3,k4⟩|⟨k3,k4⟩
    ·exact .inr ⟨k1,.inr ⟨k3,k4,fun y hy hyp=>ho.pr y hy hyp⟩⟩
    ·exact .inr ⟨k1,.inl ⟨k3,k4⟩⟩
  have happ:pre++a :: l=(pre++[a])++l:=by simp
  have hat:∀n,dL (pre++a :: l) n=some a∨n≠a.name:=by
   intro n
   by_cases e:n=a.name
   ·left
    subst e
    unfold dL
    rw [List.find?_append]
    have hpre:List.find? (fun b:Tm=>aT b.name a.name) pre=none:=by
     rw [List.find?_eq_none]
     intro b hb e2
     exact (List.pairwise_append.1 hnd).2.2 b hb a (by simp) (aV.1 e2)
    rw [hpre,List.find?_cons,aV.2 rfl]
    rfl
   ·exact .inr e
  have ih:=uk L hl l (pre++[a]) (w.take (bI w.c.queues x.proc a x.req.prio).1 (bI w.c.queues x.proc a x.req.prio).2.1) x hws.tp.v (hs.tp hws.tp) hpL hc2 hpr (by rw [←happ];exact hnd) ((show Rsl w.c.queues l from fun b hb=>hr b (by simp [hb])).tp hws.tp) (fun n hn=>by
   rw [hws.tp.hasE] at hn
   rw [←happ]
   by_cases e:n=a.name
   ·subst e
    refine ⟨fun _=>?_,fun b hb=>?_⟩
    ·unfold FitW
     rcases hat a.name with h3|h3
     ·rw [h3];exact hfa
     ·exact absurd rfl h3
    ·have:=zS hb
     exact absurd this.2.symm (h1 b this.1)
   ·have e1:=hws.oth n e hn
    have h3:=hf n hn
    rw [dI,cc.2 (fun h=>e h.symm),cond_false] at h3
    exact ⟨fun h4=>FitW.eq (h3.1 h4) e1,fun b hb=>(h3.2 b hb).eq e1⟩)
  rw [←happ] at ih
  exact ⟨(hws.mono fun _ _=>trivial).trans ih.1,fun n hn=>ih.2.1 n (by rw [hws.tp.hasE];exact hn),ih.2.2⟩
theorem EJ {r:Rs} {l j:Am} (hj:aC r j=true) (hc:aY r j l=true) (hne:j≠l) (hl:l=⟨0,0⟩∨aC r l=true):cm l j=true:=by
 unfold cm
 rw [lr hj,decide_eq_false (fun e=>hne e.symm)]
 rcases hl with rfl|hl
 ·rfl
 ·rw [lr hl]
  have z:=dT hl
  have zj:=dT hj
  have hs:be r=true:=by unfold aC at hj;rw [Bool.and_eq_true] at hj;exact hj.1
  unfold aY at hc
  rw [cJ hj,cJ hl,z,zj] at hc
  unfold aC at hl hj
  simp only [Bool.true_and,Bool.false_or,Bool.not_false] at hc ⊢
  rw [z,Bool.false_or]
  rcases cw hs with ⟨hk,_⟩|⟨hk,_⟩
  ·rw [if_pos hk] at hc hl
   simp only [Bool.and_eq_true,fg] at hl
   rw [decide_eq_false (show ¬l.mode=0 by omega)]
   exact hc
  ·rw [if_neg (by omega)] at hc hl hj
   simp only [Bool.and_eq_true,decide_eq_true_eq] at hl hj hc
   rw [decide_eq_true hl.2.1.1]
   simp only [Bool.not_true,cond_false,decide_eq_true_eq]
   rcases Int.lt_or_eq_of_le hc with h|h
   ·exact h
   ·exfalso
    apply hne
    obtain ⟨lm,lu⟩:=l
    obtain ⟨jm,ju⟩:=j
    dsimp only at *
    rw [hl.2.1.1,hj.2.1.1,h]
theorem Bh {l:List En} (h:Ents l):∀e∈l,ay l e.name≠⟨0,0⟩:=by
 refine n4 (P:=fun l=>∀e∈l,ay l e.name≠⟨0,0⟩) (fun e he=>absurd he (by simp)) ?_ l h
 intro l e _ he ih f hf
 have hu:∀a:Am,aR a=true→a≠⟨0,0⟩:=fun a ha e=>by rw [e] at ha;exact absurd ha (by decide)
 rw [jG]
 rcases List.mem_append.1 hf with hf|hf
 ·cases aT e.name f.name with
  | true=>exact hu _ (n7 he.gr).1
  | false=>exact ih f hf
 ·rw [List.mem_singleton] at hf
  subst hf
  rw [aV.2 rfl]
  exact hu _ (n7 he.gr).1
theorem CE {t:List Qu} {x:Pc} (hs:PStat t x):∀e∈x.led.entries,e.name∈gz t:=fun e he=>by
 obtain ⟨h1,_⟩:=hs.hf e.name (Bh hs.led.ents e he)
 obtain ⟨h2,h3⟩:=dH h1
 exact List.mem_map.2 ⟨_,h2,h3⟩
theorem He {t:List Qu} (hv:eO t=true) {n:ByteArray} (hn:aU t n=true):bE n.toList=true:=by
 obtain ⟨h2,h3⟩:=dH hn
 have h4:=(aH (dK hv h2)).res
 unfold mI Rs.key at h4
 rw [h3] at h4
 simp only [Bool.and_eq_true] at h4
 exact h4.1.1.1
structure GrP (x y:Pc):Prop where
 proc:y.proc=x.proc
 ents:∃m,y.led.entries=x.led.entries++m
 svs:y.led.saves=x.led.saves
theorem GrP.refl (x:Pc):GrP x x:=⟨rfl,⟨[],by simp⟩,rfl⟩
theorem GrP.trans {x y z:Pc} (h:GrP x y) (k:GrP y z):GrP x z:=by
 obtain ⟨h1,⟨m,h2⟩,h3⟩:=h
 obtain ⟨k1,⟨m',k2⟩,k3⟩:=k
 exact ⟨k1.trans h1,⟨m++m',by rw [k2,h2,List.append_assoc]⟩,k3.trans h3⟩
structure LedOf (t:List Qu) (x y:Pc):Prop where
 eq:y = { x with led:=y.led }
 stat:PStat t y
 gr:GrP x y
theorem LedOf.proc {t:List Qu} {x y:Pc} (h:LedOf t x y):y.proc=x.proc:=by rw [h.eq]
theorem JU {w:Wk} {i:Nat} {x y:Pc} {n:ByteArray} {a:Am} (hv:eO w.c.queues=true) (hn:aU w.c.queues n=true) (hy:w.pc i=y) (hi:i<w.c.procs.length) (hl:LedOf w.c.queues x y) (hlh:iQ y n=iQ x n) (ha:aC (bd w.c.queues n).res a=true) (hf:FitA w.c.queues n x a)
  (hc:aY (bd w.c.queues n).res (aj (bd w.c.queues n).holds x.proc) a=true) :
  ∃y',iX w i x.proc n=w.setP i y'∧LedOf w.c.queues x y'∧FitR w.c.queues n y'∧∀m,m≠n→iQ y' m=iQ y m:=by
 have same:FitR w.c.queues n x→∃y',iX w i x.proc n=w.setP i y'∧LedOf w.c.queues x y'∧FitR w.c.queues n y'∧∀m,m≠n→iQ y' m=iQ y m:=by
  intro h
  have h1:aj (bd w.c.queues n).holds x.proc=ay (w.pc i).led.entries n:=by rw [hy];exact h.h.trans hlh.symm
  refine ⟨y,?_,hl,⟨?_,?_⟩,fun _ _=>rfl⟩
  ·unfold iX
   rw [decide_eq_true h1,cond_true]
   unfold Wk.setP
   have:w.c.procs.set i y=w.c.procs:=by
    apply List.ext_getElem
    ·simp
    ·intro j h1 h2
     rw [List.getElem_set]
     split
     ·next e =>
      subst e
      unfold Wk.pc at hy
      rw [←hy]
      simp [hi]
     ·rfl
   rw [this]
  ·rw [hl.proc];exact h.h.trans hlh.symm
  ·rw [hl.proc];exact h.w
 rcases hf with ⟨_,h⟩|⟨hc2,⟨h1,h2⟩|⟨h1,h2,_⟩⟩
 ·exact same h
 ·obtain ⟨j1,j2,_,j4⟩:=IM (pA hv hn) ha hc2 (by rw [←hlh];exact sC hl.stat n)
  have hne:aj (bd w.c.queues n).holds x.proc≠ay (w.pc i).led.entries n:=by rw [hy,h1,show ay y.led.entries n=iQ x n from hlh];exact j4
  have hgr:cm (iQ x n) (jn w.c.queues n x a)=true:=EJ j1 j2 j4 (by rw [←hlh];exact sC hl.stat n)
  obtain ⟨e1,e2⟩:=Cq (g:=y.led) hl.stat.led (e:=⟨n,iQ x n,jn w.c.queues n x a⟩) (He hv hn) (by show iQ x n=ay y.led.entries n;exact hlh.symm) hgr (ns:=gz w.c.queues) (by unfold gz;rw [List.length_map];exact (cr hv).1) (CE hl.stat) (by obtain ⟨h3,h4⟩:=dH hn;exact List.mem_map.2 ⟨_,h3,h4⟩)
  have hlhn:∀m,ay (y.led.entries++[(⟨n,iQ x n,jn w.c.queues n x a⟩:En)]) m=bif aT n m then jn w.c.queues n x a else iQ y m:=fun m=>jG _ _ _
  refine ⟨{ y with led:=⟨y.led.entries++[⟨n,iQ x n,jn w.c.queues n x a⟩],y.led.saves⟩ },?_,⟨?_,?_,hl.gr.trans ⟨rfl,⟨_,rfl⟩,rfl⟩⟩,⟨?_,?_⟩,fun m hm=>?_⟩
  ·unfold iX
   rw [decide_eq_false hne,cond_false,hy,h1,show ay y.led.entries n=iQ x n from hlh,e1]
  ·have:=hl.eq
   generalize y.led=g at *
   subst this
   rfl
  ·have hst:=hl.stat
   refine ⟨hst.vp,hst.cost,e2,hst.gen,fun m hm=>?_⟩
   have h5:iQ { y with led:=⟨y.led.entries++[⟨n,iQ x n,jn w.c.queues n x a⟩],y.led.saves⟩ } m=bif aT n m then jn w.c.queues n x a else iQ y m:=hlhn m
   rw [h5] at hm ⊢
   cases he:aT n m with
   | true =>
    have:=aV.1 he
    subst this
    exact ⟨hn,j1⟩
   | false =>
    rw [he] at hm
    exact hst.hf m hm
  ·show aj (bd w.c.queues n).holds y.proc=ay _ n
   rw [hl.proc,h1,hlhn,aV.2 rfl]
   rfl
  ·show ai (bd w.c.queues n) y.proc=none
   rw [hl.proc]
   exact h2
  ·show ay _ m=_
   rw [hlhn,cc.2 (fun e=>hm e.symm)]
   rfl
 ·rw [h1,hc2] at hc
  cases hc
theorem oo {w:Wk} {i:Nat} (hi:i<w.c.procs.length) (x:Pc):(w.setP i x).pc i=x:=by
 unfold Wk.setP Wk.pc
 simp [hi]
theorem pB (w:Wk) (i:Nat) (x y:Pc):(w.setP i x).setP i y=w.setP i y:=by
 unfold Wk.setP
 simp
theorem LedOf.refl {t:List Qu} {x:Pc} (h:PStat t x):LedOf t x x:=⟨rfl,h,GrP.refl x⟩
theorem FitR.led {t:List Qu} {n:ByteArray} {x y:Pc} (h:FitR t n x) (hp:y.proc=x.proc) (hl:iQ y n=iQ x n):FitR t n y:=⟨by rw [hp,hl];exact h.h,by rw [hp];exact h.w⟩
def FinT (x:Pc) (i:Nat):List Tm→List Bool→Wk→Prop
 | a :: l,b :: bs,w=>eO w.c.queues=true∧aU w.c.queues a.name=true∧i<w.c.procs.length∧FinT x i l bs (bif b then iX w i x.proc a.name else bL w x a.name)
 | _,_,_=>True
theorem sE:∀(l:List Tm) (bs:List Bool) (w:Wk) (i:Nat) (x y:Pc),l.length=bs.length→eO w.c.queues=true→w.pc i=y→i<w.c.procs.length→PStat w.c.queues x→LedOf w.c.queues x y→(∀a∈l,iQ y a.name=iQ x a.name)→Hd l→Rsl w.c.queues l→
  (∀n,aU w.c.queues n=true→(∀a,dL l n=some a→FitA w.c.queues n x a.am)∧(dL l n=none→FitR w.c.queues n y))→
  (∀k (h:k<l.length),bs.getD k false=true→aY (bd w.c.queues l[k].name).res (aj (bd w.c.queues l[k].name).holds x.proc) l[k].am=true)→
  ∃y',TP w.c.queues (di x i l bs w).c.queues x.proc∧(di x i l bs w).c.procs=w.c.procs.set i y'∧(di x i l bs w).c.now=w.c.now∧LedOf (di x i l bs w).c.queues x y'∧(∀n,aU w.c.queues n=true→FitR (di x i l bs w).c.queues n y')∧FinT x i l bs w
 | [],bs,w,i,x,y,_,hv,hy,hi,_,hl,_,_,_,hf,_=>by
  have e:di x i [] bs w=w:=by cases bs <;> rfl
  rw [e]
  refine ⟨y,TP.refl hv _,?_,rfl,hl,fun n hn=>(hf n hn).2 rfl,by cases bs <;> trivial⟩
  apply List.ext_getElem
  ·simp
  ·intro j h1 h2
   rw [List.getElem_set]
   split
   ·next e =>
    subst e
    unfold Wk.pc at hy
    rw [←hy]
    simp [hi]
   ·rfl
 | a :: l,[],w,i,x,y,hlen,_,_,_,_,_,_,_,_,_,_=>by simp at hlen
 | a :: l,b :: bs,w,i,x,y,hlen,hv,hy,hi,hsx,hl,hlh,hnd,hr,hf,hc=>by
  obtain ⟨h1,h2⟩:=List.pairwise_cons.1 hnd
  obtain ⟨ha1,ha2⟩:=hr a (by simp)
  have hfa:FitA w.c.queues a.name x a.am:=(hf a.name ha1).1 a (by rw [dI,aV.2 rfl];rfl)
  have hr2:Rsl w.c.queues l:=fun b hb=>hr b (by simp [hb])
  have hat:∀n,n≠a.name→dL (a :: l) n=dL l n:=fun n hn=>by rw [dI,cc.2 (fun h=>hn h.symm)];rfl
  have hnone:dL l a.name=none:=jM.2 fun b hb e=>h1 b hb e.symm
  cases b with
  | true =>
   obtain ⟨y1,e1,k1,k2,k3⟩:=JU hv ha1 hy hi hl (hlh a (by simp)) ha2 hfa (by have:=hc 0 (by simp) (by simp);simpa using this)
   have e:di x i (a :: l) (true :: bs) w=di x i l bs (w.setP i y1):=by
    show di x i l bs (bif true then iX w i x.proc a.name else bL w x a.name)=_
    rw [cond_true,e1]
   rw [e]
   have ih:=sE l bs (w.setP i y1) i x y1 (by simpa using hlen) hv (oo hi y1) (by show i<(w.c.procs.set i y1).length;simpa using hi) hsx k1 (fun b hb=>by rw [k3 _ (fun e=>h1 b hb e.symm)];exact hlh b (by simp [hb])) h2 hr2
    (fun n hn=>by
     by_cases en:n=a.name
     ·subst en
      exact ⟨fun b hb=>(by rw [hnone] at hb;cases hb),fun _=>k2⟩
     ·have h3:=hf n hn
      rw [hat n en] at h3
      exact ⟨h3.1,fun h4=>(h3.2 h4).led (by rw [k1.proc,hl.proc]) (k3 n en)⟩)
    (fun k hk hb=>by
     have h5:=hc (k+1) (by simpa using hk) (by simpa using hb)
     simp only [List.getElem_cons_succ] at h5
     exact h5)
   obtain ⟨y',q1,q2,q3,q4,q5,q6⟩:=ih
   refine ⟨y',q1,?_,q3,q4,q5,hv,ha1,hi,by rw [cond_true,e1];exact q6⟩
   rw [q2]
   show (w.c.procs.set i y1).set i y'=_
   simp
  | false =>
   obtain ⟨k1,k2⟩:=x7 hv ha1 hsx ha2 hfa
   have e:di x i (a :: l) (false :: bs) w=di x i l bs (bL w x a.name):=rfl
   rw [e]
   have ih:=sE l bs (bL w x a.name) i x y (by simpa using hlen) k1.tp.v (by unfold Wk.pc at hy ⊢;rw [k1.procs];exact hy) (by rw [k1.procs];exact hi) (hsx.tp k1.tp) ⟨hl.eq,hl.stat.tp k1.tp,hl.gr⟩ (fun b hb=>hlh b (by simp [hb])) h2 (hr2.tp k1.tp)
    (fun n hn=>by
     rw [k1.tp.hasE] at hn
     by_cases en:n=a.name
     ·subst en
      exact ⟨fun b hb=>(by rw [hnone] at hb;cases hb),fun _=>k2.led hl.proc (hlh a (by simp))⟩
     ·have h3:=hf n hn
      rw [hat n en] at h3
      have e1:=k1.oth n en hn
      exact ⟨fun b hb=>(h3.1 b hb).eq e1,fun h4=>(h3.2 h4).eq e1⟩)
    (fun k hk hb=>by
     have h5:=hc (k+1) (by simpa using hk) (by simpa using hb)
     simp only [List.getElem_cons_succ] at h5
     have hm:l[k]∈l:=List.getElem_mem hk
     rw [k1.oth l[k].name (fun e=>h1 _ hm e.symm) (hr2 _ hm).1]
     exact h5)
   obtain ⟨y',q1,q2,q3,q4,q5,q6⟩:=ih
   exact ⟨y',k1.tp.trans q1,by rw [q2,k1.procs],q3.trans k1.now,q4,fun n hn=>q5 n (by rw [k1.tp.hasE];exact hn),hv,ha1,hi,q6⟩
theorem sF (x:Ex) (L:List Tm):∀(n:Nat) (out:List Bool) (k:Nat),(iz x L n out).getD k false=true→out.getD k false=true
 | 0,_,_,h=>h
 | n+1,out,k,h=>by
  have h1:=sF x L n _ k h
  cases hb:out.getD n false with
  | false=>rw [hb] at h1;exact h1
  | true =>
   rw [hb,cond_true] at h1
   by_cases hk:k=n
   ·subst hk;exact hb
   ·rw [List.getD_eq_getElem?_getD,List.getElem?_set_ne (fun e=>hk e.symm),←List.getD_eq_getElem?_getD] at h1
    exact h1
theorem sG (x:Ex) (L:List Tm):∀(n:Nat) (out:List Bool),(iz x L n out).length=out.length
 | 0,_=>rfl
 | n+1,out=>by
  unfold iz
  rw [sG x L n]
  cases out.getD n false <;> simp
theorem ul (x:Ex) (set:List Bool):(cP x set).length=(cY x).length:=by
 unfold cP
 cases eV x set with
 | true=>rw [cond_true,sG];simp
 | false=>simp
theorem CF {x:Ex} {set:List Bool} {k:Nat} (h:(cP x set).getD k false=true):set.getD k false=true:=by
 unfold cP at h
 cases hh:eV x set with
 | true =>
  rw [hh,cond_true] at h
  have h1:=sF x (cY x) _ _ k h
  rw [List.getD_eq_getElem?_getD,List.getElem?_map] at h1
  by_cases hk:k<(cY x).length
  ·rw [List.getElem?_range hk] at h1
   exact h1
  ·rw [List.getElem?_eq_none (by simpa using hk)] at h1
   cases h1
 | false =>
  rw [hh,cond_false,List.getD_eq_getElem?_getD] at h
  by_cases hk:k<(cY x).length
  ·rw [List.getElem?_replicate,if_pos hk] at h;cases h
  ·rw [List.getElem?_replicate,if_neg hk] at h;cases h
theorem JV {x:Ex} (h:oO x=true):Hd (cY x):=by
 have h1:=(uX h).2.2
 unfold cY
 rw [h,cond_true]
 unfold oO at h
 simp only [Bool.and_eq_true,decide_eq_true_eq] at h
 exact h.2.2.2
theorem pC (x:Ex):Hd (cY x):=by
 cases h:oO x with
 | true=>exact JV h
 | false=>rw [zo h];exact List.Pairwise.nil
structure CI (c:Cs):Prop where
 now:0≤c.now∧c.now≤1073741824
 tv:eO c.queues=true
 len:c.procs.length≤8
 asc:(c.procs.map (·.proc)).Pairwise f8
 cov:∀r∈aD c.queues,r∈c.procs.map (·.proc)
 inv:∀x∈c.procs,PInv c.queues c.now x
theorem bX {w:Wk} {i:Nat} (hi:i<w.c.procs.length):w.pc i=w.c.procs[i]:=by unfold Wk.pc;simp [hi]
theorem x8 {c:Cs} (h:CI c) {i j:Nat} (hi:i<c.procs.length) (hj:j<c.procs.length) (hij:i≠j):c.procs[i].proc≠c.procs[j].proc:=by
 intro e
 have hp:=List.pairwise_iff_getElem.1 h.asc
 rcases Nat.lt_or_gt_of_ne hij with hlt|hlt
 ·have:=hp i j (by simpa using hi) (by simpa using hj) hlt
  simp only [List.getElem_map] at this
  rw [e] at this
  exact bH _ this
 ·have:=hp j i (by simpa using hj) (by simpa using hi) hlt
  simp only [List.getElem_map] at this
  rw [e] at this
  exact bH _ this
theorem CI.upd {c c':Cs} (h:CI c) {i:Nat} (hi:i<c.procs.length) {y:Pc} (hp:c'.procs=c.procs.set i y) (hn:c'.now=c.now) (hyp:y.proc=c.procs[i].proc) (ht:TP c.queues c'.queues y.proc) (hy:PInv c'.queues c'.now y):CI c':=by
 have hm:c'.procs.map (·.proc)=c.procs.map (·.proc):=by
  rw [hp,List.map_set,hyp]
  apply List.ext_getElem
  ·simp
  ·intro j h1 h2
   rw [List.getElem_set]
   split
   ·next e=>subst e;simp
   ·rfl
 refine ⟨by rw [hn];exact h.now,ht.v,by rw [hp];simpa using h.len,by rw [hm];exact h.asc,fun r hr=>?_,fun x hx=>?_⟩
 ·rw [hm]
  rcases ht.sub r hr with e|e
  ·rw [e,hyp]
   exact List.mem_map.2 ⟨_,List.getElem_mem hi,rfl⟩
  ·exact h.cov r e
 ·rw [hp] at hx
  obtain ⟨j,hj,e⟩:=List.mem_iff_getElem.1 hx
  rw [List.getElem_set] at e
  have hj2:j<c.procs.length:=by simpa using hj
  split at e
  ·subst e;exact hy
  ·next hij =>
   subst e
   have h1:=h.inv _ (List.getElem_mem hj2)
   rw [←hn] at h1
   exact h1.tp ht (by rw [hyp];exact x8 h hj2 hi (fun e=>hij e.symm))
def cZ (l:List Pc):Nat:=(l.filter (·.waiting)).length
theorem um {l:List Pc} {i:Nat} (hi:i<l.length) {y:Pc} (h1:l[i].waiting=true) (h2:y.waiting=false):cZ (l.set i y)+1=cZ l:=by
 unfold cZ
 induction l generalizing i with
 | nil=>simp at hi
 | cons x l ih =>
  cases i with
  | zero =>
   have h1':x.waiting=true:=h1
   rw [List.set_cons_zero,List.filter_cons,List.filter_cons,if_neg (by rw [h2];simp),if_pos h1']
   rfl
  | succ i =>
   have:=ih (i:=i) (by simpa using hi) (by simpa using h1)
   rw [List.set_cons_succ,List.filter_cons,List.filter_cons]
   cases x.waiting with
   | true=>rw [if_pos rfl,if_pos rfl,List.length_cons,List.length_cons];omega
   | false=>rw [if_neg (by simp),if_neg (by simp)];exact this
theorem oq (l:List Pc):cZ l≤l.length:=List.length_filter_le _ _
theorem x9 {t:List Qu} {now:Int} {y:Pc} (hs:PStat t y) (hf:∀n,aU t n=true→FitR t n y):PInv t now { y with waiting:=false,req:=Rq.zero,since:=0 } :=
 ⟨⟨hs.vp,hs.cost,hs.led,hs.gen,hs.hf⟩,fun _=>⟨rfl,rfl,fun n hn=>⟨(hf n hn).h,(hf n hn).w⟩⟩,fun h=>by cases h⟩
theorem PInv.regen {t:List Qu} {now:Int} {y:Pc} (h:PInv t now y) (g:Int):PInv t now { y with gen:=bj g } :=
 ⟨⟨h.stat.vp,h.stat.cost,h.stat.led,by have:=nU (n:=g);show 0≤bj g∧bj g≤1073741824;omega,h.stat.hf⟩,fun hw=>by
  obtain ⟨h1,h2,h3⟩:=h.run hw
  exact ⟨h1,h2,fun n hn=>⟨(h3 n hn).h,(h3 n hn).w⟩⟩,fun hw=>by
  obtain ⟨h1,h2⟩:=h.wat hw
  refine ⟨⟨h1.rq,h1.rs,h1.sn⟩,fun n hn=>?_⟩
  have:=h2 n hn
  unfold FitW at this ⊢
  cases ha:dL (cY y.req.expr) n with
  | none=>rw [ha] at this;exact ⟨this.h,this.w⟩
  | some a =>
   rw [ha] at this
   rcases this with ⟨k1,k2⟩|k
   ·exact .inl ⟨k1,k2.h,k2.w⟩
   ·exact .inr k⟩
theorem vX {t:List Qu} {x:Ex} (h:iH t x=0):oO x=true∧Rsl t (cY x):=by
 unfold iH at h
 cases hv:oO x with
 | false=>rw [hv] at h;cases h
 | true =>
  rw [hv] at h
  exact ⟨rfl,uj.1 h⟩
def KW (l l':List Pc):Prop:=∀x∈l',x.waiting=true→x∈l
theorem KW.refl (l:List Pc):KW l l:=fun _ h _=>h
theorem KW.trans {a b c:List Pc} (h:KW a b) (k:KW b c):KW a c:=fun x hx hw=>h x (k x hx hw) hw
theorem KW.set {l:List Pc} {i:Nat} {y:Pc} (hy:y.waiting=false):KW l (l.set i y):=fun x hx hw=>by
 rcases List.mem_or_eq_of_mem_set hx with h|rfl
 ·exact h
 ·rw [hy] at hw;cases hw
def KG (l l':List Pc):Prop:=∀x∈l,∃x'∈l',GrP x x'
theorem KG.refl (l:List Pc):KG l l:=fun x h=>⟨x,h,GrP.refl x⟩
theorem KG.trans {a b c:List Pc} (h:KG a b) (k:KG b c):KG a c:=fun x hx=>by
 obtain ⟨y,hy,h1⟩:=h x hx
 obtain ⟨z,hz,h2⟩:=k y hy
 exact ⟨z,hz,h1.trans h2⟩
theorem KG.set {l:List Pc} {i:Nat} (hi:i<l.length) {y:Pc} (hy:GrP l[i] y):KG l (l.set i y):=fun x hx=>by
 obtain ⟨j,hj,e⟩:=List.mem_iff_getElem.1 hx
 by_cases hji:j=i
 ·subst hji
  exact ⟨y,List.mem_iff_getElem.2 ⟨j,by simpa using hj,by simp⟩,by rw [←e];exact hy⟩
 ·refine ⟨x,List.mem_iff_getElem.2 ⟨j,by simpa using hj,?_⟩,GrP.refl x⟩
  rw [List.getElem_set_ne (fun e2=>hji e2.symm)]
  exact e
structure KN (l l':List Pc):Prop where
 nw:∀x∈l,x.waiting=false→x∈l'
 gr:KG l l'
theorem KN.refl (l:List Pc):KN l l:=⟨fun _ h _=>h,KG.refl l⟩
theorem KN.trans {a b c:List Pc} (h:KN a b) (k:KN b c):KN a c:=⟨fun x hx hw=>k.nw x (h.nw x hx hw) hw,h.gr.trans k.gr⟩
theorem KN.set {l:List Pc} {i:Nat} (hi:i<l.length) (hw:l[i].waiting=true) {y:Pc} (hy:GrP l[i] y):KN l (l.set i y):=⟨fun x hx hxw=>by
 obtain ⟨j,hj,e⟩:=List.mem_iff_getElem.1 hx
 have hji:j≠i:=fun e2=>by subst e2;rw [e,hxw] at hw;cases hw
 refine List.mem_iff_getElem.2 ⟨j,by simpa using hj,?_⟩
 rw [List.getElem_set_ne (fun e2=>hji e2.symm)]
 exact e,KG.set hi hy⟩
theorem EK {w:Wk} {i:Nat} (h:CI w.c) (hi:i<w.c.procs.length) (hw:(w.pc i).waiting=true) :
  CI (km w i).c∧cZ (km w i).c.procs+1=cZ w.c.procs∧(km w i).c.procs.length=w.c.procs.length∧(km w i).c.now=w.c.now∧KW w.c.procs (km w i).c.procs∧(km w i).c.procs.map (·.proc)=w.c.procs.map (·.proc)∧KN w.c.procs (km w i).c.procs∧gz (km w i).c.queues=gz w.c.queues∧FinT (w.pc i) i (cY (w.pc i).req.expr) (cP (w.pc i).req.expr (br w.c.queues (w.pc i).proc (w.pc i).req.expr)) (w.note 2 (w.pc i).proc):=by
 have hpc:=bX hi
 have hinv:=h.inv _ (List.getElem_mem hi)
 rw [←hpc] at hinv
 obtain ⟨hwt,hfit⟩:=hinv.wat hw
 obtain ⟨hve,hrsl⟩:=vX hwt.rs
 obtain ⟨y',q1,q2,q3,q4,q5,q6⟩:=sE (cY (w.pc i).req.expr) (cP (w.pc i).req.expr (br w.c.queues (w.pc i).proc (w.pc i).req.expr)) (w.note 2 (w.pc i).proc) i (w.pc i) (w.pc i) (ul _ _).symm h.tv rfl hi hinv.stat (LedOf.refl hinv.stat) (fun _ _=>rfl) (pC _) hrsl
  (fun n hn=>by
   have:=hfit n hn
   unfold FitW at this
   exact ⟨fun a ha=>by rw [ha] at this;exact this,fun ha=>by rw [ha] at this;exact this⟩)
  (fun k hk hb=>by
   have h1:=CF hb
   unfold br at h1
   rw [List.getD_eq_getElem?_getD,List.getElem?_map,List.getElem?_eq_getElem hk] at h1
   have h2:(aU w.c.queues (cY (w.pc i).req.expr)[k].name && aY (bd w.c.queues (cY (w.pc i).req.expr)[k].name).res (aj (bd w.c.queues (cY (w.pc i).req.expr)[k].name).holds (w.pc i).proc) (cY (w.pc i).req.expr)[k].am)=true:=h1
   rw [Bool.and_eq_true] at h2
   exact h2.2)
 have e:∀g:Wk,di (w.pc i) i (cY (w.pc i).req.expr) (cP (w.pc i).req.expr (br w.c.queues (w.pc i).proc (w.pc i).req.expr)) (w.note 2 (w.pc i).proc)=g→km w i=bb (eC g i) i:=fun g hg=>by unfold km;rw [hg]
 generalize hg:di (w.pc i) i (cY (w.pc i).req.expr) (cP (w.pc i).req.expr (br w.c.queues (w.pc i).proc (w.pc i).req.expr)) (w.note 2 (w.pc i).proc)=g at *
 rw [e g rfl]
 have q2':g.c.procs=w.c.procs.set i y':=q2
 have hgi:i<g.c.procs.length:=by rw [q2'];simpa using hi
 have hgp:g.pc i=y':=by rw [bX hgi];simp [q2']
 have hproc:y'.proc=w.c.procs[i].proc:=by rw [q4.proc,hpc]
 have e2:bb (eC g i) i=g.setP i { y' with waiting:=false,req:=Rq.zero,since:=0,gen:=bj y'.gen }:=by
  unfold bb eC
  rw [hgp,oo hgi,pB]
 rw [e2]
 have hfin:PInv g.c.queues g.c.now { y' with waiting:=false,req:=Rq.zero,since:=0,gen:=bj y'.gen } :=
  (x9 q4.stat (fun n hn=>q5 n (by have:=q1.hasE n;rw [this] at hn;exact hn)):PInv g.c.queues g.c.now { y' with waiting:=false,req:=Rq.zero,since:=0 }).regen y'.gen
 have hps:(g.setP i { y' with waiting:=false,req:=Rq.zero,since:=0,gen:=bj y'.gen }).c.procs=w.c.procs.set i { y' with waiting:=false,req:=Rq.zero,since:=0,gen:=bj y'.gen }:=by
  show g.c.procs.set i _=_
  rw [q2',List.set_set]
 have hn:g.c.now=w.c.now:=q3
 have hmap:(w.c.procs.set i { y' with waiting:=false,req:=Rq.zero,since:=0,gen:=bj y'.gen }).map (·.proc)=w.c.procs.map (·.proc):=by
  rw [List.map_set]
  apply List.ext_getElem
  ·simp
  ·intro j h1 h2
   rw [List.getElem_set]
   split
   ·next e=>subst e;simp [hproc]
   ·rfl
 refine ⟨h.upd hi hps hn hproc ?_ hfin,?_,by rw [hps];simp,hn,by rw [hps];exact KW.set rfl,by rw [hps];exact hmap,by rw [hps];exact KN.set hi (by rw [←hpc];exact hw) (by rw [←hpc];exact ⟨q4.gr.proc,q4.gr.ents,q4.gr.svs⟩),q1.nm,q6⟩
 ·have:y'.proc=(w.pc i).proc:=q4.proc
  show TP w.c.queues g.c.queues y'.proc
  rw [this]
  exact q1
 ·rw [hps]
  exact um hi (by rw [←hpc];exact hw) rfl
theorem jN {t:List Qu}:∀{l:List Pc} {k i:Nat},eP t k l=some i→∃j,∃h:j<l.length,i=k+j∧ec t l[j]=true
 | [],_,_,h=>by cases h
 | x :: l,k,i,h=>by
  unfold eP at h
  cases hs:ec t x with
  | true =>
   rw [hs,cond_true] at h
   injection h with h
   exact ⟨0,by simp,by omega,hs⟩
  | false =>
   rw [hs,cond_false] at h
   obtain ⟨j,hj,e,h2⟩:=jN h
   exact ⟨j+1,by simpa using hj,by omega,by simpa using h2⟩
theorem sH {t:List Qu}:∀{l:List Pc} {k:Nat},eP t k l=none→∀x∈l,ec t x=false
 | [],_,_,x,hx=>absurd hx (by simp)
 | y :: l,k,h,x,hx=>by
  unfold eP at h
  cases hs:ec t y with
  | true=>rw [hs] at h;cases h
  | false =>
   rw [hs,cond_false] at h
   rcases List.mem_cons.1 hx with rfl|hx
   ·exact hs
   ·exact sH h x hx
theorem mc {l:List Pc} {i:Nat} (hi:i<l.length) (h:l[i].waiting=true):0<cZ l:=by
 unfold cZ
 exact List.length_pos_of_mem (List.mem_filter.2 ⟨List.getElem_mem hi,h⟩)
theorem sI:∀(n:Nat) (w:Wk),CI w.c→cZ w.c.procs≤n→CI (aS n w).c∧(∀x∈(aS n w).c.procs,ec (aS n w).c.queues x=false)∧(aS n w).c.procs.map (·.proc)=w.c.procs.map (·.proc)∧(aS n w).c.now=w.c.now∧cZ (aS n w).c.procs≤cZ w.c.procs∧KW w.c.procs (aS n w).c.procs∧KN w.c.procs (aS n w).c.procs∧gz (aS n w).c.queues=gz w.c.queues
 | 0,w,h,hn=>by
  refine ⟨h,fun x hx=>?_,rfl,rfl,Nat.le_refl _,KW.refl _,KN.refl _,rfl⟩
  cases hw:x.waiting with
  | false=>unfold ec;rw [hw];rfl
  | true =>
   obtain ⟨i,hi,e⟩:=List.mem_iff_getElem.1 hx
   have:=mc hi (by rw [e];exact hw)
   have hn':cZ w.c.procs≤0:=hn
   have this':0<cZ w.c.procs:=this
   omega
 | n+1,w,h,hn=>by
  unfold aS
  cases hs:eP w.c.queues 0 w.c.procs with
  | none=>exact ⟨h,sH hs,rfl,rfl,Nat.le_refl _,KW.refl _,KN.refl _,rfl⟩
  | some i =>
   obtain ⟨j,hj,e,h2⟩:=jN hs
   have e':i=j:=by omega
   subst e'
   have hwt:(w.pc i).waiting=true:=by
    rw [bX hj]
    unfold ec at h2
    rw [Bool.and_eq_true] at h2
    exact h2.1
   obtain ⟨k1,k2,k3,k4,k5,k6,k7,k8,_⟩:=EK h hj hwt
   obtain ⟨l1,l2,l3,l4,l5,l6,l7,l8⟩:=sI n (km w i) k1 (by omega)
   exact ⟨l1,l2,l3.trans k6,l4.trans k4,Nat.le_trans l5 (by omega),k5.trans l6,k7.trans l7,l8.trans k8⟩
theorem md {w:Wk} (h:CI w.c):CI (bP w).c∧(∀x∈(bP w).c.procs,ec (bP w).c.queues x=false)∧(bP w).c.procs.map (·.proc)=w.c.procs.map (·.proc)∧(bP w).c.now=w.c.now∧cZ (bP w).c.procs≤cZ w.c.procs∧KW w.c.procs (bP w).c.procs∧KN w.c.procs (bP w).c.procs∧gz (bP w).c.queues=gz w.c.queues :=
 sI _ w h (oq _)
structure Kp (w w':Wk):Prop where
 kw:KW w.c.procs w'.c.procs
 now:w'.c.now=w.c.now
 pr:w'.c.procs.map (·.proc)=w.c.procs.map (·.proc)
 nm:gz w'.c.queues=gz w.c.queues
theorem Kp.trans {a b c:Wk} (h:Kp a b) (k:Kp b c):Kp a c:=⟨h.kw.trans k.kw,k.now.trans h.now,k.pr.trans h.pr,k.nm.trans h.nm⟩
theorem Kp.len {a b:Wk} (h:Kp a b):b.c.procs.length=a.c.procs.length:=by have:=congrArg List.length h.pr;simpa using this
theorem jk {w:Wk} (h:CI w.c):CI (bP w).c∧(∀x∈(bP w).c.procs,ec (bP w).c.queues x=false)∧Kp w (bP w):=by
 obtain ⟨h1,h2,h3,h4,_,h6,_,h8⟩:=md h
 exact ⟨h1,h2,h6,h4,h3,h8⟩
theorem me {w:Wk} (h:CI w.c):KN w.c.procs (bP w).c.procs:=(md h).2.2.2.2.2.2.1
def KO (p:Pr) (l l':List Pc):Prop:=∀x∈l,x.proc≠p→∃x'∈l',GrP x x'
theorem KO.then {p:Pr} {a b c:List Pc} (h:KO p a b) (k:KG b c):KO p a c:=fun x hx hp=>by
 obtain ⟨y,hy,h1⟩:=h x hx hp
 obtain ⟨z,hz,h2⟩:=k y hy
 exact ⟨z,hz,h1.trans h2⟩
theorem KO.pre {p:Pr} {a b c:List Pc} (h:KG a b) (k:KO p b c):KO p a c:=fun x hx hp=>by
 obtain ⟨y,hy,h1⟩:=h x hx
 obtain ⟨z,hz,h2⟩:=k y hy (by rw [h1.proc];exact hp)
 exact ⟨z,hz,h1.trans h2⟩
theorem KO.set {p:Pr} {l:List Pc} {i:Nat} (hi:i<l.length) (hp:l[i].proc=p) (y:Pc):KO p l (l.set i y):=fun x hx hxp=>by
 obtain ⟨j,hj,e⟩:=List.mem_iff_getElem.1 hx
 have hji:j≠i:=fun e2=>by subst e2;rw [e] at hp;exact hxp hp
 refine ⟨x,List.mem_iff_getElem.2 ⟨j,by simpa using hj,?_⟩,GrP.refl x⟩
 rw [List.getElem_set_ne (fun e2=>hji e2.symm)]
 exact e
theorem GrP.led {x y:Pc} (hp:y.proc=x.proc) (hl:y.led=x.led):GrP x y:=⟨hp,⟨[],by rw [hl];simp⟩,by rw [hl]⟩
theorem Hf {w:Wk} {i:Nat} (hi:i<w.c.procs.length):KG w.c.procs (bb w i).c.procs:=by
 have hps:(bb w i).c.procs=w.c.procs.set i { w.pc i with gen:=bj (w.pc i).gen }:=rfl
 rw [hps]
 exact KG.set hi (GrP.led (by rw [bX hi]) (by rw [bX hi]))
theorem fH {l:List Pc} {i:Nat} (hi:i<l.length) {y:Pc} (hp:y.proc=l[i].proc):(l.set i y).map (·.proc)=l.map (·.proc):=by
 rw [List.map_set]
 apply List.ext_getElem
 ·simp
 ·intro j h1 h2
  rw [List.getElem_set]
  split
  ·next e=>subst e;simp [hp]
  ·rfl
theorem gG {w:Wk} {i:Nat} (h:CI w.c) (hi:i<w.c.procs.length) (hw:(w.pc i).waiting=true) :
  CI (az w i).c∧cZ (az w i).c.procs+1=cZ w.c.procs∧Kp w (az w i)∧(az w i).c.procs=w.c.procs.set i { w.pc i with waiting:=false,req:=Rq.zero,since:=0 }∧∀n,aU (az w i).c.queues n=true→FitR (az w i).c.queues n (w.pc i):=by
 have hpc:=bX hi
 have hinv:=h.inv _ (List.getElem_mem hi)
 rw [←hpc] at hinv
 obtain ⟨hwt,hfit⟩:=hinv.wat hw
 obtain ⟨hve,hrsl⟩:=vX hwt.rs
 obtain ⟨hws,hfr,hdt⟩:=sD (cY (w.pc i).req.expr) w (w.pc i) h.tv hinv.stat (pC _) hrsl hfit
 have e:az w i=eC (eG (w.pc i) (cY (w.pc i).req.expr) w) i:=rfl
 generalize hg:eG (w.pc i) (cY (w.pc i).req.expr) w=g at *
 rw [e]
 have hgi:i<g.c.procs.length:=by rw [hws.procs];exact hi
 have hgp:g.pc i=w.pc i:=by unfold Wk.pc;rw [hws.procs]
 have hps:(eC g i).c.procs=w.c.procs.set i { w.pc i with waiting:=false,req:=Rq.zero,since:=0 }:=by
  unfold eC Wk.setP
  rw [hgp]
  show g.c.procs.set i _=_
  rw [hws.procs]
 have hfin:PInv g.c.queues g.c.now { w.pc i with waiting:=false,req:=Rq.zero,since:=0 }:=x9 (hinv.stat.tp hws.tp) fun n hn=>hfr n (by rw [hws.tp.hasE] at hn;exact hn)
 refine ⟨h.upd (c':=(eC g i).c) hi hps hws.now (by rw [hpc]) hws.tp hfin,?_,⟨by rw [hps];exact KW.set rfl,hws.now,by rw [hps];exact fH hi (by rw [hpc]),hws.tp.nm⟩,hps,fun n hn=>hfr n (by
  have h5:aU g.c.queues n=true:=hn
  rw [hws.tp.hasE] at h5
  exact h5)⟩
 rw [hps]
 exact um hi (by rw [←hpc];exact hw) rfl
theorem mf {w:Wk} {i:Nat} (h:CI w.c) (hi:i<w.c.procs.length) (hw:(w.pc i).waiting=false):CI (bb w i).c∧Kp w (bb w i)∧cZ (bb w i).c.procs=cZ w.c.procs:=by
 have hpc:=bX hi
 have hinv:=h.inv _ (List.getElem_mem hi)
 rw [←hpc] at hinv
 have hps:(bb w i).c.procs=w.c.procs.set i { w.pc i with gen:=bj (w.pc i).gen }:=rfl
 refine ⟨h.upd (c':=(bb w i).c) hi hps rfl (by rw [hpc]) (TP.refl h.tv _) (hinv.regen _),⟨by rw [hps];exact KW.set hw,rfl,by rw [hps];exact fH hi (by rw [hpc]),rfl⟩,?_⟩
 rw [hps]
 unfold cZ
 have gen:∀(l:List Pc) (i:Nat) (y:Pc),(∀h:i<l.length,l[i].waiting=y.waiting)→((l.set i y).filter (·.waiting)).length=(l.filter (·.waiting)).length:=by
  intro l
  induction l with
  | nil=>intro i y _;rfl
  | cons x l ih =>
   intro i y hxy
   cases i with
   | zero =>
    have:x.waiting=y.waiting:=hxy (by simp)
    rw [List.set_cons_zero,List.filter_cons,List.filter_cons,this]
    cases y.waiting <;> rfl
   | succ i =>
    have:=ih i y (fun h=>by have:=hxy (by simpa using h);simpa using this)
    rw [List.set_cons_succ,List.filter_cons,List.filter_cons]
    cases x.waiting with
    | true=>rw [if_pos rfl,if_pos rfl,List.length_cons,List.length_cons,this]
    | false=>rw [if_neg (by simp),if_neg (by simp),this]
 exact gen _ _ _ fun h=>by rw [←hpc]
theorem mX {w:Wk} {i:Nat} (h:CI w.c) (hi:i<w.c.procs.length) (hw:(w.pc i).waiting=true):DrT (w.pc i) (cY (w.pc i).req.expr) w:=by
 have hpc:=bX hi
 have hinv:=h.inv _ (List.getElem_mem hi)
 rw [←hpc] at hinv
 obtain ⟨hwt,hfit⟩:=hinv.wat hw
 obtain ⟨hve,hrsl⟩:=vX hwt.rs
 exact (sD (cY (w.pc i).req.expr) w (w.pc i) h.tv hinv.stat (pC _) hrsl hfit).2.2
def JW (w:Wk) (i:Nat) (r:Rq):Wk:=bb (w.setP i { w.pc i with waiting:=true,req:=r,since:=w.c.now }) i
def Dc (w:Wk) (i:Nat) (r:Rq):Wk:=dj (w.pc i).proc r.prio (cY r.expr) (JW w i r)
theorem qw {w:Wk} {i:Nat} {r:Rq} (h:CI w.c) (hi:i<w.c.procs.length) (hw:(w.pc i).waiting=false) (hq:qo r=true) (hr:iH w.c.queues r.expr=0) :
  CI (Dc w i r).c∧(Dc w i r).c.procs=w.c.procs.set i { w.pc i with waiting:=true,req:=r,since:=w.c.now,gen:=bj (w.pc i).gen }∧(Dc w i r).c.now=w.c.now∧gz (Dc w i r).c.queues=gz w.c.queues:=by
 have hpc:=bX hi
 unfold Dc JW
 have hinv:=h.inv _ (List.getElem_mem hi)
 rw [←hpc] at hinv
 obtain ⟨_,_,hrun⟩:=hinv.run hw
 obtain ⟨hve,hrsl⟩:=vX hr
 have hx:bb (w.setP i { w.pc i with waiting:=true,req:=r,since:=w.c.now }) i=w.setP i { w.pc i with waiting:=true,req:=r,since:=w.c.now,gen:=bj (w.pc i).gen }:=by
  unfold bb
  rw [oo hi,pB]
 rw [hx]
 have hst:PStat w.c.queues { w.pc i with waiting:=true,req:=r,since:=w.c.now,gen:=bj (w.pc i).gen }:=⟨hinv.stat.vp,hinv.stat.cost,hinv.stat.led,by have:=nU (n:=(w.pc i).gen);show 0≤bj (w.pc i).gen∧bj (w.pc i).gen≤1073741824;omega,hinv.stat.hf⟩
 have hprio:0≤r.prio∧r.prio≤7:=by unfold qo at hq;simp only [Bool.and_eq_true,decide_eq_true_eq] at hq;exact ⟨hq.1.1.1.2,hq.1.1.2⟩
 obtain ⟨hws,hfw,_⟩:=uk (w.c.procs.map (fun x:Pc=>x.proc)) (by simpa using h.len) (cY r.expr) [] (w.setP i { w.pc i with waiting:=true,req:=r,since:=w.c.now,gen:=bj (w.pc i).gen }) { w.pc i with waiting:=true,req:=r,since:=w.c.now,gen:=bj (w.pc i).gen } h.tv hst (List.mem_map.2 ⟨_,List.getElem_mem hi,by rw [←hpc]⟩) h.cov hprio (pC _) hrsl
  (fun n hn=>by
   have h1:FitR w.c.queues n { w.pc i with waiting:=true,req:=r,since:=w.c.now,gen:=bj (w.pc i).gen }:=(hrun n hn).led rfl rfl
   refine ⟨fun h2=>?_,fun a _=>h1⟩
   unfold FitW
   rw [List.nil_append,h2]
   exact h1)
 rw [List.nil_append] at hfw
 have e:dj (w.pc i).proc r.prio (cY r.expr) (w.setP i { w.pc i with waiting:=true,req:=r,since:=w.c.now,gen:=bj (w.pc i).gen })=dj ({ w.pc i with waiting:=true,req:=r,since:=w.c.now,gen:=bj (w.pc i).gen }:Pc).proc ({ w.pc i with waiting:=true,req:=r,since:=w.c.now,gen:=bj (w.pc i).gen }:Pc).req.prio (cY r.expr) (w.setP i { w.pc i with waiting:=true,req:=r,since:=w.c.now,gen:=bj (w.pc i).gen }):=rfl
 rw [e]
 generalize dj ({ w.pc i with waiting:=true,req:=r,since:=w.c.now,gen:=bj (w.pc i).gen }:Pc).proc ({ w.pc i with waiting:=true,req:=r,since:=w.c.now,gen:=bj (w.pc i).gen }:Pc).req.prio (cY r.expr) (w.setP i { w.pc i with waiting:=true,req:=r,since:=w.c.now,gen:=bj (w.pc i).gen })=g at *
 have hps:g.c.procs=w.c.procs.set i { w.pc i with waiting:=true,req:=r,since:=w.c.now,gen:=bj (w.pc i).gen }:=hws.procs
 have hnow:g.c.now=w.c.now:=hws.now
 have hpv:PInv g.c.queues g.c.now { w.pc i with waiting:=true,req:=r,since:=w.c.now,gen:=bj (w.pc i).gen }:=by
  refine ⟨hst.tp hws.tp,fun hf=>(by cases hf),fun _=>⟨⟨hq,?_,?_⟩,fun n hn=>?_⟩⟩
  ·rw [Bb hws.tp];exact hr
  ·rw [hnow];exact ⟨h.now.1,Int.le_refl _⟩
  ·exact hfw n (by rw [hws.tp.hasE] at hn;exact hn)
 have hci:=h.upd (c':=g.c) hi hps hnow (by rw [hpc]) hws.tp hpv
 exact ⟨hci,hps,hnow,hws.tp.nm⟩
theorem zT {w:Wk} {i:Nat} {r:Rq} (h:CI w.c) (hi:i<w.c.procs.length) (he:(cQ w i r).2=0) :
  CI (cQ w i r).1.c∧(∀x∈(cQ w i r).1.c.procs,ec (cQ w i r).1.c.queues x=false)∧(cQ w i r).1.c.now=w.c.now∧(cQ w i r).1.c.procs.map (·.proc)=w.c.procs.map (·.proc)∧(∀x∈(cQ w i r).1.c.procs,x.waiting=true→x∈w.c.procs∨(x = { w.pc i with waiting:=true,req:=r,since:=w.c.now,gen:=bj (w.pc i).gen }))∧KG w.c.procs (cQ w i r).1.c.procs∧gz (cQ w i r).1.c.queues=gz w.c.queues:=by
 unfold cQ at he ⊢
 cases hw:(w.pc i).waiting with
 | true=>rw [hw] at he;simp at he
 | false =>
  rw [hw] at he
  simp only [cond_false] at he ⊢
  cases hq:qo r with
  | false=>rw [hq] at he;simp at he
  | true =>
   rw [hq] at he
   simp only [Bool.not_true,cond_false] at he ⊢
   by_cases hr:iH w.c.queues r.expr=0
   ·rw [decide_eq_true hr]
    simp only [Bool.not_true,cond_false]
    have hpc:=bX hi
    obtain ⟨hci,hps,hnow,hnm⟩:=qw h hi hw hq hr
    have e:dj (w.pc i).proc r.prio (cY r.expr) (bb (w.setP i { w.pc i with waiting:=true,req:=r,since:=w.c.now }) i)=Dc w i r:=rfl
    rw [e]
    generalize Dc w i r=g at *
    obtain ⟨k1,k2,k3⟩:=jk hci
    refine ⟨k1,k2,k3.now.trans hnow,k3.pr.trans (by rw [hps];exact fH hi (by rw [hpc])),fun x hx hxw=>?_,KG.trans (by rw [hps];exact KG.set hi (GrP.led (by rw [hpc]) (by rw [hpc]))) (me hci).gr,k3.nm.trans hnm⟩
    have h5:=k3.kw x hx hxw
    rw [hps] at h5
    rcases List.mem_or_eq_of_mem_set h5 with h6|rfl
    ·exact .inl h6
    ·exact .inr rfl
   ·rw [decide_eq_false hr] at he
    simp only [Bool.not_false,cond_true] at he
    exact absurd he hr
theorem CG {g:Lg} (h:Ld g) {n:ByteArray} (hn:ay g.entries n≠⟨0,0⟩):(lv g n).1=iu g n:=by
 have hne:(iu g n).entries.length≠g.entries.length:=by
  intro e
  have h1:g.entries.filter (oth n)=g.entries:=List.Sublist.eq_of_length List.filter_sublist e
  have h2:=jI n n g.entries
  rw [h1,if_pos rfl] at h2
  exact hn h2
 unfold lv
 rw [eS.2 h,decide_eq_false hne]
 rfl
def qR (w:Wk) (i:Nat) (n:ByteArray):Wk:=bb ((eY w (w.pc i).proc ⟨n,⟨0,0⟩⟩).setP i { w.pc i with led:=(lv (w.pc i).led n).1 }) i
theorem qz {w:Wk} {i:Nat} {n:ByteArray} (h:CI w.c) (hi:i<w.c.procs.length) (hw:(w.pc i).waiting=false) (h0:ay (w.pc i).led.entries n≠⟨0,0⟩) :
  CI (qR w i n).c∧(qR w i n).c.procs=w.c.procs.set i { w.pc i with led:=iu (w.pc i).led n,gen:=bj (w.pc i).gen }∧(qR w i n).c.now=w.c.now∧gz (qR w i n).c.queues=gz w.c.queues:=by
 have hpc:=bX hi
 unfold qR
 have hinv:=h.inv _ (List.getElem_mem hi)
 rw [←hpc] at hinv
 obtain ⟨hrq,hsn,hrun⟩:=hinv.run hw
 obtain ⟨hn,hfit⟩:=hinv.stat.hf n h0
 have hfr:=hrun n hn
 have hcov:aY (bd w.c.queues n).res (aj (bd w.c.queues n).holds (w.pc i).proc) ⟨0,0⟩=true:=by
  rw [hfr.h]
  have p0:bK (bd w.c.queues n).res ⟨0,0⟩=true:=by unfold bK aF;rw [pA h.tv hn];rfl
  unfold aY
  rw [cJ hfit,p0]
  rfl
 obtain ⟨_,hst,k1,k2⟩:=px (p:=(w.pc i).proc) (a:=⟨n,⟨0,0⟩⟩) h.tv hn (by rw [hfr.h];exact h0) hfr.w hcov
 have hws:WS w (eY w (w.pc i).proc ⟨n,⟨0,0⟩⟩) (w.pc i).proc (· = n):=WS.take h.tv hst
 generalize hg:eY w (w.pc i).proc ⟨n,⟨0,0⟩⟩=g at *
 have hgq:g.c.queues=(cl w.c.queues (w.pc i).proc ⟨n,⟨0,0⟩⟩).1:=by rw [←hg];rfl
 rw [←hgq] at k1 k2
 have hgi:i<g.c.procs.length:=by rw [hws.procs];exact hi
 have hgp:g.pc i=w.pc i:=by unfold Wk.pc;rw [hws.procs]
 have hdr:=CG hinv.stat.led h0
 have hx:bb (g.setP i { w.pc i with led:=(lv (w.pc i).led n).1 }) i=g.setP i { w.pc i with led:=iu (w.pc i).led n,gen:=bj (w.pc i).gen }:=by
  unfold bb
  rw [oo hgi,pB,hdr]
 rw [hx]
 have hlh:∀m,iQ { w.pc i with led:=iu (w.pc i).led n,gen:=bj (w.pc i).gen } m=if m=n then ⟨0,0⟩ else iQ (w.pc i) m:=fun m=>jI n m _
 have hps:(g.setP i { w.pc i with led:=iu (w.pc i).led n,gen:=bj (w.pc i).gen }).c.procs=w.c.procs.set i { w.pc i with led:=iu (w.pc i).led n,gen:=bj (w.pc i).gen }:=by
  show g.c.procs.set i _=_
  rw [hws.procs]
 have hpv:PInv g.c.queues g.c.now { w.pc i with led:=iu (w.pc i).led n,gen:=bj (w.pc i).gen }:=by
  refine ⟨⟨hinv.stat.vp,hinv.stat.cost,GN hinv.stat.led n,by have:=nU (n:=(w.pc i).gen);show 0≤bj (w.pc i).gen∧bj (w.pc i).gen≤1073741824;omega,fun m hm=>?_⟩,fun _=>⟨hrq,hsn,fun m hm=>?_⟩,fun hf=>by
   have:(w.pc i).waiting=true:=hf
   rw [hw] at this
   cases this⟩
  ·rw [hlh] at hm ⊢
   by_cases e:m=n
   ·rw [if_pos e] at hm;exact absurd rfl hm
   ·rw [if_neg e] at hm ⊢
    exact (hinv.stat.tp hws.tp).hf m hm
  ·rw [hws.tp.hasE] at hm
   by_cases e:m=n
   ·subst e
    exact ⟨by rw [hlh,if_pos rfl];exact k1,k2⟩
   ·have e1:=hws.oth m e hm
    exact ((hrun m hm).eq e1).led rfl (by rw [hlh,if_neg e])
 have hci:=h.upd (c':=(g.setP i { w.pc i with led:=iu (w.pc i).led n,gen:=bj (w.pc i).gen }).c) hi hps hws.now (by rw [hpc]) hws.tp hpv
 exact ⟨hci,hps,hws.now,hws.tp.nm⟩
theorem zU {w:Wk} {i:Nat} {n:ByteArray} (h:CI w.c) (hi:i<w.c.procs.length) (he:(ed w i n).2=0) :
  CI (ed w i n).1.c∧(∀x∈(ed w i n).1.c.procs,ec (ed w i n).1.c.queues x=false)∧Kp w (ed w i n).1∧KO (w.pc i).proc w.c.procs (ed w i n).1.c.procs:=by
 unfold ed at he ⊢
 cases hw:(w.pc i).waiting with
 | true=>rw [hw] at he;simp at he
 | false =>
  rw [hw] at he
  simp only [cond_false] at he ⊢
  by_cases h0:ay (w.pc i).led.entries n=⟨0,0⟩
  ·rw [decide_eq_true h0] at he;simp at he
  ·rw [decide_eq_false h0]
   simp only [cond_false]
   have hpc:=bX hi
   obtain ⟨hci,hps,hnow,hnm⟩:=qz h hi hw h0
   have e:bb ((eY w (w.pc i).proc ⟨n,⟨0,0⟩⟩).setP i { (eY w (w.pc i).proc ⟨n,⟨0,0⟩⟩).pc i with led:=(lv ((eY w (w.pc i).proc ⟨n,⟨0,0⟩⟩).pc i).led n).1 }) i=qR w i n:=rfl
   rw [e]
   generalize qR w i n=g at *
   obtain ⟨q1,q2,q3⟩:=jk hci
   have hk:Kp w g:=⟨by rw [hps];exact KW.set hw,hnow,by rw [hps];exact fH hi (by rw [hpc]),hnm⟩
   exact ⟨q1,q2,hk.trans q3,KO.then (by rw [hps];exact KO.set hi (by rw [hpc]) _) (me hci).gr⟩
theorem sJ {r:Rs} {b a:Am} (hb:aC r b=true) (h:a=⟨0,0⟩∨ID b a):aY r b a=true:=by
 have hs:be r=true:=by unfold aC at hb;rw [Bool.and_eq_true] at hb;exact hb.1
 rcases h with rfl|h
 ·have p0:bK r ⟨0,0⟩=true:=by unfold bK aF;rw [hs];rfl
  unfold aY
  rw [cJ hb,p0]
  rfl
 ·rcases h with rfl|⟨h1,h2,h3⟩
  ·exact rS hb
  ·have hfb:=hb
   unfold aC at hfb
   have key:aC r a=true∧(if r.kind=1 then cu b.mode a.mode else decide (a.units≤b.units))=true:=by
    rcases cw hs with ⟨hk,_⟩|⟨hk,_⟩
    ·rw [if_pos hk] at hfb ⊢
     simp only [Bool.and_eq_true,decide_eq_true_eq,fg] at hfb
     rcases h3 with ⟨h4,h5⟩|⟨_,h4,_⟩
     ·refine ⟨?_,h5⟩
      unfold aC
      rw [if_pos hk,hs]
      rcases cA h1 with ⟨h6,h7⟩|⟨h6,_⟩
      ·rw [h6,h7];rfl
      ·exact absurd h6 h4
     ·omega
    ·have hk1:¬r.kind=1:=by omega
     rw [if_neg hk1] at hfb ⊢
     simp only [Bool.and_eq_true,decide_eq_true_eq] at hfb
     rcases h3 with ⟨_,h5⟩|⟨h4,_,h5⟩
     ·rw [n5] at h5;omega
     ·refine ⟨?_,by rw [decide_eq_true_eq];omega⟩
      unfold aC
      rw [if_neg hk1,hs]
      simp only [Bool.and_eq_true,decide_eq_true_eq,Bool.true_and]
      rcases cA h1 with ⟨h6,_⟩|⟨_,h6,_⟩
      ·rw [fg] at h6;omega
      ·omega
   unfold aY
   rw [cJ hb,cJ key.1,dT hb,key.2]
   simp
def LwT (p:Pr):List Tm→Wk→Prop
 | [],_=>True
 | a :: l,w=>aU w.c.queues a.name=true∧LwT p l (cO w p a.name a.am)
theorem uo:∀(l:List Tm) (w:Wk) (x y:Pc),eO w.c.queues=true→PStat w.c.queues x→y.proc=x.proc→Hd l→
  (∀a∈l,a.am=iQ y a.name∧iQ x a.name≠⟨0,0⟩∧(a.am=⟨0,0⟩∨ID (iQ x a.name) a.am))→
  (∀n,aU w.c.queues n=true→(∀a,dL l n=some a→FitR w.c.queues n x)∧(dL l n=none→FitR w.c.queues n y))→
  WS w (cf x.proc l w) x.proc (fun _=>True)∧(∀n,aU w.c.queues n=true→FitR (cf x.proc l w).c.queues n y)∧LwT x.proc l w
 | [],w,x,y,hv,_,_,_,_,hf=>⟨WS.refl hv _ _,fun n hn=>(hf n hn).2 rfl,trivial⟩
 | a :: l,w,x,y,hv,hs,hp,hnd,hl,hf=>by
  obtain ⟨h1,h2⟩:=List.pairwise_cons.1 hnd
  obtain ⟨e1,e2,e3⟩:=hl a (by simp)
  obtain ⟨hn,hfit⟩:=hs.hf a.name e2
  have hfr:FitR w.c.queues a.name x:=(hf a.name hn).1 a (by rw [dI,aV.2 rfl];rfl)
  have hnone:dL l a.name=none:=jM.2 fun b hb e=>h1 b hb e.symm
  have hat:∀n,n≠a.name→dL (a :: l) n=dL l n:=fun n hn=>by rw [dI,cc.2 (fun h=>hn h.symm)];rfl
  have step:∃g,cO w x.proc a.name a.am=g∧WS w g x.proc (· = a.name)∧FitR g.c.queues a.name y:=by
   unfold cO
   by_cases hd:aj (bd w.c.queues a.name).holds x.proc=a.am
   ·rw [decide_eq_true hd]
    exact ⟨w,rfl,WS.refl hv _ _,by rw [hp,hd,e1],by rw [hp];exact hfr.w⟩
   ·rw [decide_eq_false hd]
    obtain ⟨_,hst,k1,k2⟩:=px (p:=x.proc) (a:=⟨a.name,a.am⟩) hv hn (by rw [hfr.h];exact e2) hfr.w (by rw [hfr.h];exact sJ hfit e3)
    exact ⟨_,rfl,WS.take hv hst,by rw [hp,←e1];exact k1,by rw [hp];exact k2⟩
  obtain ⟨g,hg,hws,hfy⟩:=step
  have e:cf x.proc (a :: l) w=cf x.proc l g:=by
   show cf x.proc l (cO w x.proc a.name a.am)=_
   rw [hg]
  rw [e]
  have ih:=uo l g x y hws.tp.v (hs.tp hws.tp) hp h2 (fun b hb=>hl b (by simp [hb])) (fun n hn2=>by
   rw [hws.tp.hasE] at hn2
   by_cases en:n=a.name
   ·subst en
    exact ⟨fun b hb=>(by rw [hnone] at hb;cases hb),fun _=>hfy⟩
   ·have h3:=hf n hn2
    rw [hat n en] at h3
    have e4:=hws.oth n en hn2
    exact ⟨fun b hb=>(h3.1 b hb).eq e4,fun h4=>(h3.2 h4).eq e4⟩)
  exact ⟨(hws.mono fun _ _=>trivial).trans ih.1,fun n hn2=>ih.2.1 n (by rw [hws.tp.hasE];exact hn2),hn,by rw [hg];exact ih.2.2⟩
theorem fX (n:ByteArray):∀(m:List En) (a:Am),(∀e∈m,e.name≠n)→cz n a m=a
 | [],_,_=>rfl
 | e :: m,a,h=>by
  show cz n (bif aT e.name n then e.after else a) m=a
  rw [cc.2 (h e (by simp))]
  exact fX n m a fun f hf=>h f (by simp [hf])
theorem sK {l:List En} {k:Nat} {n:ByteArray} (h:n ∉ bp (l.drop k)):ay l n=ay (l.take k) n:=by
 conv=>lhs;rw [←List.take_append_drop k l]
 unfold ay
 rw [mS,fX n (l.drop k) _ fun e he e2=>h (du.2 ⟨e,he,e2⟩)]
structure Rest (w w1:Wk) (i:Nat):Prop where
 ci:CI w1.c
 hi:i<w1.c.procs.length
 kp:Kp w w1
 led:(w1.pc i).led=(w.pc i).led
 proc:(w1.pc i).proc=(w.pc i).proc
 run:(w1.pc i).waiting=false
 kg:KG w.c.procs w1.c.procs
theorem Hg {w:Wk} {i:Nat} (h:CI w.c) (hi:i<w.c.procs.length):Rest w (bif (w.pc i).waiting then az w i else w) i:=by
 cases hw:(w.pc i).waiting with
 | false=>exact ⟨h,hi,⟨KW.refl _,rfl,rfl,rfl⟩,rfl,rfl,hw,KG.refl _⟩
 | true =>
  obtain ⟨k1,_,k3,k4,_⟩:=gG h hi hw
  have hlen:i<(az w i).c.procs.length:=by rw [k3.len];exact hi
  have hp:(az w i).pc i = { w.pc i with waiting:=false,req:=Rq.zero,since:=0 }:=by rw [bX hlen];simp [k4]
  exact ⟨k1,hlen,k3,by rw [cond_true,hp],by rw [cond_true,hp],by rw [cond_true,hp],by rw [cond_true,k4];exact KG.set hi (GrP.led (by rw [bX hi]) (by rw [bX hi]))⟩
def pD (w:Wk) (i:Nat):Wk:=bif (w.pc i).waiting then az w i else w
def ya (w:Wk) (i:Nat) (n:Int):Wk:=(pD w i).setP i { (pD w i).pc i with led:=(bU (w.pc i).led n).1 }
def pE (w:Wk) (i:Nat) (n:Int):Wk:=bb (cf (w.pc i).proc (bU (w.pc i).led n).2.1 (ya w i n)) i
theorem ou {w:Wk} {i:Nat} {n:Int} (h:CI w.c) (hi:i<w.c.procs.length) (hu:(bU (w.pc i).led n).2.2=0) :
  LwT (w.pc i).proc (bU (w.pc i).led n).2.1 (ya w i n)∧CI (pE w i n).c∧Kp w (pE w i n)∧KO (w.pc i).proc w.c.procs (pE w i n).c.procs∧∃y∈(pE w i n).c.procs,y.proc=(w.pc i).proc∧y.waiting=false∧y.led=bi (w.pc i).led n:=by
 obtain ⟨hld,hld2,hue,htk⟩:=GM hu
 have hr:Rest w (pD w i) i:=Hg h hi
 unfold pE ya
 generalize pD w i=w1 at *
 have hpc:=bX hr.hi
 have hinv:=hr.ci.inv _ (List.getElem_mem hr.hi)
 rw [←hpc] at hinv
 obtain ⟨hrq,hsn,hrun⟩:=hinv.run hr.run
 rw [hue]
 dsimp only
 have hst:=hinv.stat
 have hlt:∀m,iQ { w1.pc i with led:=bi (w.pc i).led n } m=ay ((w1.pc i).led.entries.take (bi (w.pc i).led n).entries.length) m:=by
  intro m
  show ay (bi (w.pc i).led n).entries m=_
  rw [hr.led]
  exact congrArg (ay · m) htk
 have hst2:PStat w1.c.queues { w1.pc i with led:=bi (w.pc i).led n }:=by
  refine ⟨hst.vp,hst.cost,hld2,hst.gen,fun m hm=>?_⟩
  rw [hlt] at hm ⊢
  rcases ua hst.led.ents m (bi (w.pc i).led n).entries.length with h1|h1
  ·exact absurd h1 hm
  ·have hne:iQ (w1.pc i) m≠⟨0,0⟩:=by
    intro e0
    have e0':ay (w1.pc i).led.entries m=⟨0,0⟩:=e0
    rw [e0'] at h1
    rcases h1 with h1|⟨_,h2,_⟩
    ·exact hm h1
    ·exact absurd h2 (by decide)
   obtain ⟨k1,k2⟩:=hst.hf m hne
   refine ⟨k1,?_⟩
   have hc:=sJ k2 (.inr h1)
   unfold aY bK at hc
   simp only [Bool.and_eq_true,Bool.or_eq_true] at hc
   rcases hc.1.2.2 with h3|h3
   ·exact absurd (of_decide_eq_true h3) hm
   ·exact h3
 have hw2:(w1.setP i { w1.pc i with led:=bi (w.pc i).led n }).c.queues=w1.c.queues:=rfl
 obtain ⟨hws,hfy,hlw⟩:=uo ((bp ((w.pc i).led.entries.drop (bi (w.pc i).led n).entries.length)).map fun m=>(⟨m,ay (bi (w.pc i).led n).entries m⟩:Tm)) (w1.setP i { w1.pc i with led:=bi (w.pc i).led n }) (w1.pc i) { w1.pc i with led:=bi (w.pc i).led n } hr.ci.tv hst rfl
  (by
   have h1:=jH (fU ((w.pc i).led.entries.drop (bi (w.pc i).led n).entries.length))
   unfold Hd
   rw [List.pairwise_map]
   exact h1.imp fun {a b} (hab:a≠b)=>hab)
  (fun a ha=>by
   obtain ⟨m,hm,rfl⟩:=List.mem_map.1 ha
   refine ⟨rfl,?_,?_⟩
   ·obtain ⟨e,he2,hen⟩:=du.1 hm
    have:=Bh hld.ents e (List.mem_of_mem_drop he2)
    rw [hen,←hr.led] at this
    exact this
   ·have h1:=ua hst.led.ents m (bi (w.pc i).led n).entries.length
    rw [←hlt m] at h1
    exact h1)
  (fun m hm=>by
   have hm':aU w1.c.queues m=true:=hm
   refine ⟨fun a _=>hrun m hm',fun hno=>(hrun m hm').led rfl ?_⟩
   rw [hlt]
   have h1:m ∉ bp ((w1.pc i).led.entries.drop (bi (w.pc i).led n).entries.length):=by
    rw [hr.led]
    intro hmem
    exact jM.1 hno ⟨m,ay (bi (w.pc i).led n).entries m⟩ (List.mem_map.2 ⟨m,hmem,rfl⟩) rfl
   exact (sK h1).symm)
 rw [←hr.proc]
 refine ⟨hlw,?_⟩
 clear hlw
 generalize cf (w1.pc i).proc ((bp ((w.pc i).led.entries.drop (bi (w.pc i).led n).entries.length)).map fun m=>(⟨m,ay (bi (w.pc i).led n).entries m⟩:Tm)) (w1.setP i { w1.pc i with led:=bi (w.pc i).led n })=g at *
 have hps:g.c.procs=w1.c.procs.set i { w1.pc i with led:=bi (w.pc i).led n }:=hws.procs
 have hpv:PInv g.c.queues g.c.now { w1.pc i with led:=bi (w.pc i).led n } :=
  ⟨hst2.tp hws.tp,fun _=>⟨hrq,hsn,fun m hm=>hfy m (by
   rw [hws.tp.hasE] at hm
   exact hm)⟩,fun hf=>by
   have:(w1.pc i).waiting=true:=hf
   rw [hr.run] at this
   cases this⟩
 have hci:=hr.ci.upd (c':=g.c) hr.hi hps hws.now (by rw [hpc]) hws.tp hpv
 have hgi:i<g.c.procs.length:=by rw [hps];simpa using hr.hi
 have hgp:g.pc i = { w1.pc i with led:=bi (w.pc i).led n }:=by rw [bX hgi];simp [hps]
 obtain ⟨n1,n2,_⟩:=mf hci hgi (by rw [hgp];exact hr.run)
 have hk:Kp w1 g:=⟨by rw [hps];exact KW.set hr.run,hws.now,by rw [hps];exact fH hr.hi (by rw [hpc]),hws.tp.nm⟩
 refine ⟨n1,(hr.kp.trans hk).trans n2,?_,?_⟩
 ·refine KO.then (KO.pre hr.kg ?_) (Hf hgi)
  rw [hps]
  exact KO.set hr.hi (by rw [←hpc]) _
 ·refine ⟨{ g.pc i with gen:=bj (g.pc i).gen },List.mem_iff_getElem.2 ⟨i,by show i<(g.c.procs.set i _).length;simpa using hgi,by show (g.c.procs.set i _)[i]'_=_;simp⟩,?_,?_,?_⟩
  ·show (g.pc i).proc=_
   rw [hgp]
  ·show (g.pc i).waiting=false
   rw [hgp];exact hr.run
  ·show (g.pc i).led=_
   rw [hgp]
theorem yb {w:Wk} {i:Nat} {n:Int} (h:CI w.c) (hi:i<w.c.procs.length) (he:(dc w i n).2=0) :
  CI (dc w i n).1.c∧(∀x∈(dc w i n).1.c.procs,ec (dc w i n).1.c.queues x=false)∧Kp w (dc w i n).1∧KO (w.pc i).proc w.c.procs (dc w i n).1.c.procs∧∃y∈(dc w i n).1.c.procs,y.proc=(w.pc i).proc∧y.waiting=false∧y.led=bi (w.pc i).led n:=by
 unfold dc at he ⊢
 by_cases hu:(bU (w.pc i).led n).2.2=0
 ·rw [decide_eq_true hu]
  simp only [Bool.not_true,cond_false]
  obtain ⟨_,n1,n2,hko,y,hy,hy1,hy2,hy3⟩:=ou h hi hu
  have e:bb (cf (w.pc i).proc (bU (w.pc i).led n).2.1 ((bif (w.pc i).waiting then az w i else w).setP i { (bif (w.pc i).waiting then az w i else w).pc i with led:=(bU (w.pc i).led n).1 })) i=pE w i n:=rfl
  rw [e]
  generalize pE w i n=g at *
  obtain ⟨q1,q2,q3⟩:=jk n1
  have hkn:=me n1
  exact ⟨q1,q2,n2.trans q3,hko.then hkn.gr,y,hkn.nw _ hy hy2,hy1,hy2,hy3⟩
 ·rw [decide_eq_false hu] at he
  simp only [Bool.not_false,cond_true] at he
  exact absurd he hu
def pF (p:Pr) (q:Qu):Qu:=bif !eF q p then q else (bg q p).1
theorem qA (p:Pr):∀t:List Qu,(aQ p t).1=t.map (pF p)
 | []=>rfl
 | q :: t=>by
  rw [List.map_cons,←qA p t]
  have e:aQ p (q :: t)=bif !eF q p then (q :: (aQ p t).1,(aQ p t).2) else
   ((bg q p).1 :: (aQ p t).1,(bif aF (aj q.holds p) then [] else [⟨3,p,q.res.name,⟨0,0⟩⟩])++aW (bg q p).1.res.name (bg q p).2.1++(aQ p t).2):=rfl
  rw [e]
  unfold pF
  cases eF q p <;> rfl
theorem mg {p:Pr} {q:Qu} (h:av q=true):Out q (pF p q) p∧eF (pF p q) p=false:=by
 unfold pF
 cases hh:eF q p with
 | false=>exact ⟨Out.same p h,hh⟩
 | true =>
  obtain ⟨h1,h2,h3⟩:=xC (vE h hh)
  refine ⟨h1,?_⟩
  show eF (bg q p).1 p=false
  unfold eF
  rw [h2,h3]
  rfl
theorem yc {f:Qu→Qu} (hf:∀q,av q=true→av (f q)=true∧(f q).res=q.res):∀{l:List Qu} {o:Option ByteArray},ka o l=true→ka o (l.map f)=true
 | [],_,h=>h
 | q :: l,o,h=>by
  rw [dP] at h
  simp only [Bool.and_eq_true] at h
  obtain ⟨h1,h2⟩:=hf q h.1.1
  rw [List.map_cons,dP,h2]
  simp only [Bool.and_eq_true]
  exact ⟨⟨h1,h.1.2⟩,yc hf h.2⟩
theorem uq {t:List Qu} (hv:eO t=true) (p:Pr):TP t (bO t p).1 p∧p ∉ aD (bO t p).1:=by
 have e:(bO t p).1=t.map (pF p):=by
  unfold bO
  rw [hv]
  exact qA p t
 rw [e]
 obtain ⟨h1,h2,h3⟩:=cr hv
 have hsd:∀q∈t,av q=true:=fun q hq=>dK hv hq
 have hnm:gz (t.map (pF p))=gz t:=by
  unfold gz
  rw [List.map_map]
  exact List.map_congr_left fun q hq=>by
   show (pF p q).res.name=_
   rw [(mg (hsd q hq)).1.res]
 have hnp:p ∉ aD (t.map (pF p)):=by
  intro hm
  unfold aD at hm
  rw [cb,gy] at hm
  obtain ⟨q,hq,hpq⟩:=hm
  obtain ⟨q0,hq0,rfl⟩:=List.mem_map.1 hq
  have k:=mg (p:=p) (hsd q0 hq0)
  have:=(d9 (aH k.1.ok) p).1 hpq
  rw [k.2] at this
  cases this
 have hsub:∀r∈aD (t.map (pF p)),r=p∨r∈aD t:=by
  intro r hr
  by_cases hrp:r=p
  ·exact .inl hrp
  ·right
   unfold aD at hr ⊢
   rw [cb,gy] at hr ⊢
   obtain ⟨q,hq,hrq⟩:=hr
   obtain ⟨q0,hq0,rfl⟩:=List.mem_map.1 hq
   have k:=mg (p:=p) (hsd q0 hq0)
   exact ⟨q0,hq0,(d9 (aH (hsd q0 hq0)) r).2 ((k.1.eff r hrp).has ((d9 (aH k.1.ok) r).1 hrq))⟩
 refine ⟨⟨?_,hnm,fun n hn=>?_,hsub⟩,hnp⟩
 ·unfold eO eU
  simp only [Bool.and_eq_true,decide_eq_true_eq]
  refine ⟨⟨by simpa using h1,yc (fun q hq=>⟨(mg hq).1.ok,(mg hq).1.res⟩) h2⟩,?_⟩
  have:=ir (m:=aD t) (fE (t.map (pF p))) fun r hr=>by
   rcases hsub r hr with e|e
   ·exact absurd (e▸hr) hnp
   ·exact e
  omega
 ·obtain ⟨i,hi,e1,e2,e3⟩:=pw hn
  have e4:bd (t.map (pF p)) n=pF p (bd t n):=by
   rw [e3]
   unfold bd
   rw [(ia hnm n).2,e1]
   simp [hi]
  rw [e4]
  exact (mg (dK hv (dH hn).1)).1
def IN (w:Wk) (i:Nat):Wk:=Wk.note ⟨{ w.c with queues:=(bO w.c.queues (w.pc i).proc).1,procs:=w.c.procs.eraseIdx i },w.ev++(bO w.c.queues (w.pc i).proc).2⟩ 5 (w.pc i).proc
theorem yd {w:Wk} {i:Nat} (h:CI w.c) (hi:i<w.c.procs.length):CI (IN w i).c:=by
 obtain ⟨htp,hnp⟩:=uq h.tv (w.pc i).proc
 have hpc:=bX hi
 have hmem:∀{x:Pc},x∈w.c.procs.eraseIdx i→x∈w.c.procs:=fun hx=>List.mem_of_mem_eraseIdx hx
 have hne:∀x∈w.c.procs.eraseIdx i,x.proc≠(w.pc i).proc:=by
  intro x hx
  obtain ⟨j,hj,hji,e⟩:=List.mem_eraseIdx_iff_getElem.1 hx
  rw [hpc,←e]
  exact x8 h hj hi hji
 show CI ({ w.c with queues:=(bO w.c.queues (w.pc i).proc).1,procs:=w.c.procs.eraseIdx i }:Cs)
 refine ⟨h.now,htp.v,?_,?_,fun r hr=>?_,fun x hx=>?_⟩
 ·have:=(List.eraseIdx_sublist w.c.procs i).length_le
  have:=h.len
  show (w.c.procs.eraseIdx i).length≤8
  omega
 ·exact h.asc.sublist ((List.eraseIdx_sublist _ _).map _)
 ·have hrp:r≠(w.pc i).proc:=fun e=>hnp (e▸hr)
  rcases htp.sub r hr with e|e
  ·exact absurd e hrp
  ·obtain ⟨x,hx,hxr⟩:=List.mem_map.1 (h.cov r e)
   obtain ⟨j,hj,e2⟩:=List.mem_iff_getElem.1 hx
   refine List.mem_map.2 ⟨x,List.mem_eraseIdx_iff_getElem.2 ⟨j,hj,fun e3=>?_,e2⟩,hxr⟩
   subst e3
   apply hrp
   rw [hpc,e2,hxr]
 ·exact (h.inv x (hmem hx)).tp htp (hne x hx)
theorem Hh {w:Wk} {i:Nat} (h:CI w.c) (hi:i<w.c.procs.length):CI (iO w i).c∧(∀x∈(iO w i).c.procs,ec (iO w i).c.queues x=false)∧KW w.c.procs (iO w i).c.procs∧(iO w i).c.now=w.c.now∧(iO w i).c.procs.map (·.proc)=(w.c.procs.eraseIdx i).map (·.proc)∧KO (w.pc i).proc w.c.procs (iO w i).c.procs∧gz (iO w i).c.queues=gz w.c.queues:=by
 have htp:=(uq h.tv (w.pc i).proc).1
 have hpc:=bX hi
 have hmem:∀{x:Pc},x∈w.c.procs.eraseIdx i→x∈w.c.procs:=fun hx=>List.mem_of_mem_eraseIdx hx
 have hci:CI (IN w i).c:=yd h hi
 have e:iO w i=bP (Wk.note ⟨{ w.c with queues:=(bO w.c.queues (w.pc i).proc).1,procs:=w.c.procs.eraseIdx i },w.ev++(bO w.c.queues (w.pc i).proc).2⟩ 5 (w.pc i).proc):=rfl
 rw [e]
 obtain ⟨k1,k2,k3⟩:=jk (w:=Wk.note ⟨{ w.c with queues:=(bO w.c.queues (w.pc i).proc).1,procs:=w.c.procs.eraseIdx i },w.ev++(bO w.c.queues (w.pc i).proc).2⟩ 5 (w.pc i).proc) hci
 refine ⟨k1,k2,fun x hx hw=>hmem (k3.kw x hx hw),k3.now,k3.pr,KO.then (fun x hx hxp=>?_) (me (w:=Wk.note ⟨{ w.c with queues:=(bO w.c.queues (w.pc i).proc).1,procs:=w.c.procs.eraseIdx i },w.ev++(bO w.c.queues (w.pc i).proc).2⟩ 5 (w.pc i).proc) hci).gr,k3.nm.trans htp.nm⟩
 obtain ⟨j,hj,e2⟩:=List.mem_iff_getElem.1 hx
 exact ⟨x,List.mem_eraseIdx_iff_getElem.2 ⟨j,hj,fun e3=>by subst e3;rw [hpc,e2] at hxp;exact hxp rfl,e2⟩,GrP.refl x⟩
end Go.Proofs.YtdaajdflefnjfaaGreat
