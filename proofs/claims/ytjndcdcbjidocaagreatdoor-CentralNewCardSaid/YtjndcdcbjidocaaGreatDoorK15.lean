/- Part 15 of 35 of the proof of centralNew_holds (no condition). -/
import Derived.Test.YtjndcdcbjidocaaGreatDoorK14
set_option linter.unusedVariables false
set_option linter.unusedSimpArgs false
set_option maxRecDepth 100000
set_option maxHeartbeats 64000000
namespace Go.Proofs.YtjndcdcbjidocaaGreatDoor
open Go.RowKit Go.Proofs.Tryz
theorem qw {r:Rs} {b a:Am} (hb:aD r b=true) (h:a=⟨0,0⟩∨F9 b a):bb r b a=true:=by
 have hs:a7 r=true:=by unfold aD at hb;rw [Bool.and_eq_true] at hb;exact hb.1
 rcases h with rfl|h
 ·have p0:be r ⟨0,0⟩=true:=by unfold be aG;rw [hs];rfl
  unfold bb
  rw [cJ hb,p0]
  rfl
 ·rcases h with rfl|⟨h1,h2,h3⟩
  ·exact pT hb
  ·have hfb:=hb
   unfold aD at hfb
   have key:aD r a=true∧(if r.kind=1 then cZ b.mode a.mode else decide (a.units≤b.units))=true:=by
    rcases bX hs with ⟨hk,_⟩|⟨hk,_⟩
    ·rw [if_pos hk] at hfb ⊢
     simp only [Bool.and_eq_true,decide_eq_true_eq,fE] at hfb
     rcases h3 with ⟨h4,h5⟩|⟨_,h4,_⟩
     ·refine ⟨?_,h5⟩
      unfold aD
      rw [if_pos hk,hs]
      rcases c6 h1 with ⟨h6,h7⟩|⟨h6,_⟩
      ·rw [h6,h7];rfl
      ·exact absurd h6 h4
     ·omega
    ·have hk1:¬r.kind=1:=by omega
     rw [if_neg hk1] at hfb ⊢
     simp only [Bool.and_eq_true,decide_eq_true_eq] at hfb
     rcases h3 with ⟨_,h5⟩|⟨h4,_,h5⟩
     ·rw [mz] at h5;omega
     ·refine ⟨?_,by rw [decide_eq_true_eq];omega⟩
      unfold aD
      rw [if_neg hk1,hs]
      simp only [Bool.and_eq_true,decide_eq_true_eq,Bool.true_and]
      rcases c6 h1 with ⟨h6,_⟩|⟨_,h6,_⟩
      ·rw [fE] at h6;omega
      ·omega
   unfold bb
   rw [cJ hb,cJ key.1,dM hb,key.2]
   simp
def LwT (p:Pr):List Tm→Wk→Prop
 | [],_=>True
 | a :: l,w=>aO w.c.queues a.name=true∧LwT p l (cd w p a.name a.am)
theorem sN:∀(l:List Tm) (w:Wk) (x y:Pc),df w.c.queues=true→PStat w.c.queues x→y.proc=x.proc→Bl l→
  (∀a∈l,a.am=fZ y a.name∧fZ x a.name≠⟨0,0⟩∧(a.am=⟨0,0⟩∨F9 (fZ x a.name) a.am))→
  (∀n,aO w.c.queues n=true→(∀a,cV l n=some a→FitR w.c.queues n x)∧(cV l n=none→FitR w.c.queues n y))→
  WS w (bP x.proc l w) x.proc (fun _=>True)∧(∀n,aO w.c.queues n=true→FitR (bP x.proc l w).c.queues n y)∧LwT x.proc l w
 | [],w,x,y,hv,_,_,_,_,hf=>⟨WS.refl hv _ _,fun n hn=>(hf n hn).2 rfl,trivial⟩
 | a :: l,w,x,y,hv,hs,hp,hnd,hl,hf=>by
  obtain ⟨h1,h2⟩:=List.pairwise_cons.1 hnd
  obtain ⟨e1,e2,e3⟩:=hl a (by simp)
  obtain ⟨hn,hfit⟩:=hs.hf a.name e2
  have hfr:FitR w.c.queues a.name x:=(hf a.name hn).1 a (by rw [cQ,aZ.2 rfl];rfl)
  have hnone:cV l a.name=none:=gK.2 fun b hb e=>h1 b hb e.symm
  have hat:∀n,n≠a.name→cV (a :: l) n=cV l n:=fun n hn=>by rw [cQ,bR.2 (fun h=>hn h.symm)];rfl
  have step:∃g,cd w x.proc a.name a.am=g∧WS w g x.proc (· = a.name)∧FitR g.c.queues a.name y:=by
   unfold cd
   by_cases hd:aq (aX w.c.queues a.name).holds x.proc=a.am
   ·rw [decide_eq_true hd]
    exact ⟨w,rfl,WS.refl hv _ _,by rw [hp,hd,e1],by rw [hp];exact hfr.w⟩
   ·rw [decide_eq_false hd]
    obtain ⟨_,hst,k1,k2⟩:=nz (p:=x.proc) (a:=⟨a.name,a.am⟩) hv hn (by rw [hfr.h];exact e2) hfr.w (by rw [hfr.h];exact qw hfit e3)
    exact ⟨_,rfl,WS.take hv hst,by rw [hp,←e1];exact k1,by rw [hp];exact k2⟩
  obtain ⟨g,hg,hws,hfy⟩:=step
  have e:bP x.proc (a :: l) w=bP x.proc l g:=by
   show bP x.proc l (cd w x.proc a.name a.am)=_
   rw [hg]
  rw [e]
  have ih:=sN l g x y hws.tp.v (hs.tp hws.tp) hp h2 (fun b hb=>hl b (by simp [hb])) (fun n hn2=>by
   rw [hws.tp.hasE] at hn2
   by_cases en:n=a.name
   ·subst en
    exact ⟨fun b hb=>(by rw [hnone] at hb;cases hb),fun _=>hfy⟩
   ·have h3:=hf n hn2
    rw [hat n en] at h3
    have e4:=hws.oth n en hn2
    exact ⟨fun b hb=>(h3.1 b hb).eq e4,fun h4=>(h3.2 h4).eq e4⟩)
  exact ⟨(hws.mono fun _ _=>trivial).trans ih.1,fun n hn2=>ih.2.1 n (by rw [hws.tp.hasE];exact hn2),hn,by rw [hg];exact ih.2.2⟩
theorem fH (n:ByteArray):∀(m:List En) (a:Am),(∀e∈m,e.name≠n)→c8 n a m=a
 | [],_,_=>rfl
 | e :: m,a,h=>by
  show c8 n (bif aY e.name n then e.after else a) m=a
  rw [bR.2 (h e (by simp))]
  exact fH n m a fun f hf=>h f (by simp [hf])
theorem qz {l:List En} {k:Nat} {n:ByteArray} (h:n ∉ bE (l.drop k)):az l n=az (l.take k) n:=by
 conv=>lhs;rw [←List.take_append_drop k l]
 unfold az
 rw [lP,fH n (l.drop k) _ fun e he e2=>h (dC.2 ⟨e,he,e2⟩)]
structure Rest (w w1:Wk) (i:Nat):Prop where
 ci:CI w1.c
 hi:i<w1.c.procs.length
 kp:Kp w w1
 led:(w1.pc i).led=(w.pc i).led
 proc:(w1.pc i).proc=(w.pc i).proc
 run:(w1.pc i).waiting=false
 kg:KG w.c.procs w1.c.procs
theorem y7 {w:Wk} {i:Nat} (h:CI w.c) (hi:i<w.c.procs.length):Rest w (bif (w.pc i).waiting then aC w i else w) i:=by
 cases hw:(w.pc i).waiting with
 | false=>exact ⟨h,hi,⟨KW.refl _,rfl,rfl,rfl⟩,rfl,rfl,hw,KG.refl _⟩
 | true =>
  obtain ⟨k1,_,k3,k4,_⟩:=c7 h hi hw
  have hlen:i<(aC w i).c.procs.length:=by rw [k3.len];exact hi
  have hp:(aC w i).pc i = { w.pc i with waiting:=false,req:=Rq.zero,since:=0 }:=by rw [bv hlen];simp [k4]
  exact ⟨k1,hlen,k3,by rw [cond_true,hp],by rw [cond_true,hp],by rw [cond_true,hp],by rw [cond_true,k4];exact KG.set hi (GrP.led (by rw [bv hi]) (by rw [bv hi]))⟩
def lU (w:Wk) (i:Nat):Wk:=bif (w.pc i).waiting then aC w i else w
def xU (w:Wk) (i:Nat) (n:Int):Wk:=(lU w i).setP i { (lU w i).pc i with led:=(dF (w.pc i).led n).1 }
def oN (w:Wk) (i:Nat) (n:Int):Wk:=bf (bP (w.pc i).proc (dF (w.pc i).led n).2.1 (xU w i n)) i
theorem mK {w:Wk} {i:Nat} {n:Int} (h:CI w.c) (hi:i<w.c.procs.length) (hu:(dF (w.pc i).led n).2.2=0) :
  LwT (w.pc i).proc (dF (w.pc i).led n).2.1 (xU w i n)∧CI (oN w i n).c∧Kp w (oN w i n)∧KO (w.pc i).proc w.c.procs (oN w i n).c.procs∧∃y∈(oN w i n).c.procs,y.proc=(w.pc i).proc∧y.waiting=false∧y.led=cc (w.pc i).led n:=by
 obtain ⟨hld,hld2,hue,htk⟩:=ES hu
 have hr:Rest w (lU w i) i:=y7 h hi
 unfold oN xU
 generalize lU w i=w1 at *
 have hpc:=bv hr.hi
 have hinv:=hr.ci.inv _ (List.getElem_mem hr.hi)
 rw [←hpc] at hinv
 obtain ⟨hrq,hsn,hrun⟩:=hinv.run hr.run
 rw [hue]
 dsimp only
 have hst:=hinv.stat
 have hlt:∀m,fZ { w1.pc i with led:=cc (w.pc i).led n } m=az ((w1.pc i).led.entries.take (cc (w.pc i).led n).entries.length) m:=by
  intro m
  show az (cc (w.pc i).led n).entries m=_
  rw [hr.led]
  exact congrArg (az · m) htk
 have hst2:PStat w1.c.queues { w1.pc i with led:=cc (w.pc i).led n }:=by
  refine ⟨hst.vp,hst.cost,hld2,hst.gen,fun m hm=>?_⟩
  rw [hlt] at hm ⊢
  rcases sw hst.led.ents m (cc (w.pc i).led n).entries.length with h1|h1
  ·exact absurd h1 hm
  ·have hne:fZ (w1.pc i) m≠⟨0,0⟩:=by
    intro e0
    have e0':az (w1.pc i).led.entries m=⟨0,0⟩:=e0
    rw [e0'] at h1
    rcases h1 with h1|⟨_,h2,_⟩
    ·exact hm h1
    ·exact absurd h2 (by decide)
   obtain ⟨k1,k2⟩:=hst.hf m hne
   refine ⟨k1,?_⟩
   have hc:=qw k2 (.inr h1)
   unfold bb be at hc
   simp only [Bool.and_eq_true,Bool.or_eq_true] at hc
   rcases hc.1.2.2 with h3|h3
   ·exact absurd (of_decide_eq_true h3) hm
   ·exact h3
 have hw2:(w1.setP i { w1.pc i with led:=cc (w.pc i).led n }).c.queues=w1.c.queues:=rfl
 obtain ⟨hws,hfy,hlw⟩:=sN ((bE ((w.pc i).led.entries.drop (cc (w.pc i).led n).entries.length)).map fun m=>(⟨m,az (cc (w.pc i).led n).entries m⟩:Tm)) (w1.setP i { w1.pc i with led:=cc (w.pc i).led n }) (w1.pc i) { w1.pc i with led:=cc (w.pc i).led n } hr.ci.tv hst rfl
  (by
   have h1:=lR (fD ((w.pc i).led.entries.drop (cc (w.pc i).led n).entries.length))
   unfold Bl
   rw [List.pairwise_map]
   exact h1.imp fun {a b} (hab:a≠b)=>hab)
  (fun a ha=>by
   obtain ⟨m,hm,rfl⟩:=List.mem_map.1 ha
   refine ⟨rfl,?_,?_⟩
   ·obtain ⟨e,he2,hen⟩:=dC.1 hm
    have:=yY hld.ents e (List.mem_of_mem_drop he2)
    rw [hen,←hr.led] at this
    exact this
   ·have h1:=sw hst.led.ents m (cc (w.pc i).led n).entries.length
    rw [←hlt m] at h1
    exact h1)
  (fun m hm=>by
   have hm':aO w1.c.queues m=true:=hm
   refine ⟨fun a _=>hrun m hm',fun hno=>(hrun m hm').led rfl ?_⟩
   rw [hlt]
   have h1:m ∉ bE ((w1.pc i).led.entries.drop (cc (w.pc i).led n).entries.length):=by
    rw [hr.led]
    intro hmem
    exact gK.1 hno ⟨m,az (cc (w.pc i).led n).entries m⟩ (List.mem_map.2 ⟨m,hmem,rfl⟩) rfl
   exact (qz h1).symm)
 rw [←hr.proc]
 refine ⟨hlw,?_⟩
 clear hlw
 generalize bP (w1.pc i).proc ((bE ((w.pc i).led.entries.drop (cc (w.pc i).led n).entries.length)).map fun m=>(⟨m,az (cc (w.pc i).led n).entries m⟩:Tm)) (w1.setP i { w1.pc i with led:=cc (w.pc i).led n })=g at *
 have hps:g.c.procs=w1.c.procs.set i { w1.pc i with led:=cc (w.pc i).led n }:=hws.procs
 have hpv:PInv g.c.queues g.c.now { w1.pc i with led:=cc (w.pc i).led n } :=
  ⟨hst2.tp hws.tp,fun _=>⟨hrq,hsn,fun m hm=>hfy m (by
   rw [hws.tp.hasE] at hm
   exact hm)⟩,fun hf=>by
   have:(w1.pc i).waiting=true:=hf
   rw [hr.run] at this
   cases this⟩
 have hci:=hr.ci.upd (c':=g.c) hr.hi hps hws.now (by rw [hpc]) hws.tp hpv
 have hgi:i<g.c.procs.length:=by rw [hps];simpa using hr.hi
 have hgp:g.pc i = { w1.pc i with led:=cc (w.pc i).led n }:=by rw [bv hgi];simp [hps]
 obtain ⟨n1,n2,_⟩:=gY hci hgi (by rw [hgp];exact hr.run)
 have hk:Kp w1 g:=⟨by rw [hps];exact KW.set hr.run,hws.now,by rw [hps];exact fm hr.hi (by rw [hpc]),hws.tp.nm⟩
 refine ⟨n1,(hr.kp.trans hk).trans n2,?_,?_⟩
 ·refine KO.then (KO.pre hr.kg ?_) (uh hgi)
  rw [hps]
  exact KO.set hr.hi (by rw [←hpc]) _
 ·refine ⟨{ g.pc i with gen:=aQ (g.pc i).gen },List.mem_iff_getElem.2 ⟨i,by show i<(g.c.procs.set i _).length;simpa using hgi,by show (g.c.procs.set i _)[i]'_=_;simp⟩,?_,?_,?_⟩
  ·show (g.pc i).proc=_
   rw [hgp]
  ·show (g.pc i).waiting=false
   rw [hgp];exact hr.run
  ·show (g.pc i).led=_
   rw [hgp]
theorem oz {w:Wk} {i:Nat} {n:Int} (h:CI w.c) (hi:i<w.c.procs.length) (he:(cX w i n).2=0) :
  CI (cX w i n).1.c∧(∀x∈(cX w i n).1.c.procs,eu (cX w i n).1.c.queues x=false)∧Kp w (cX w i n).1∧KO (w.pc i).proc w.c.procs (cX w i n).1.c.procs∧∃y∈(cX w i n).1.c.procs,y.proc=(w.pc i).proc∧y.waiting=false∧y.led=cc (w.pc i).led n:=by
 unfold cX at he ⊢
 by_cases hu:(dF (w.pc i).led n).2.2=0
 ·rw [decide_eq_true hu]
  simp only [Bool.not_true,cond_false]
  obtain ⟨_,n1,n2,hko,y,hy,hy1,hy2,hy3⟩:=mK h hi hu
  have e:bf (bP (w.pc i).proc (dF (w.pc i).led n).2.1 ((bif (w.pc i).waiting then aC w i else w).setP i { (bif (w.pc i).waiting then aC w i else w).pc i with led:=(dF (w.pc i).led n).1 })) i=oN w i n:=rfl
  rw [e]
  generalize oN w i n=g at *
  obtain ⟨q1,q2,q3⟩:=iz n1
  have hkn:=iA n1
  exact ⟨q1,q2,n2.trans q3,hko.then hkn.gr,y,hkn.nw _ hy hy2,hy1,hy2,hy3⟩
 ·rw [decide_eq_false hu] at he
  simp only [Bool.not_false,cond_true] at he
  exact absurd he hu
def nD (p:Pr) (q:Qu):Qu:=bif !fu q p then q else (ba q p).1
theorem oA (p:Pr):∀t:List Qu,(aW p t).1=t.map (nD p)
 | []=>rfl
 | q :: t=>by
  rw [List.map_cons,←oA p t]
  have e:aW p (q :: t)=bif !fu q p then (q :: (aW p t).1,(aW p t).2) else
   ((ba q p).1 :: (aW p t).1,(bif aG (aq q.holds p) then [] else [⟨3,p,q.res.name,⟨0,0⟩⟩])++aV (ba q p).1.res.name (ba q p).2.1++(aW p t).2):=rfl
  rw [e]
  unfold nD
  cases fu q p <;> rfl
theorem kx {p:Pr} {q:Qu} (h:ax q=true):Out q (nD p q) p∧fu (nD p q) p=false:=by
 unfold nD
 cases hh:fu q p with
 | false=>exact ⟨Out.same p h,hh⟩
 | true =>
  obtain ⟨h1,h2,h3⟩:=vX (tU h hh)
  refine ⟨h1,?_⟩
  show fu (ba q p).1 p=false
  unfold fu
  rw [h2,h3]
  rfl
theorem wv {f:Qu→Qu} (hf:∀q,ax q=true→ax (f q)=true∧(f q).res=q.res):∀{l:List Qu} {o:Option ByteArray},lf o l=true→lf o (l.map f)=true
 | [],_,h=>h
 | q :: l,o,h=>by
  rw [dH] at h
  simp only [Bool.and_eq_true] at h
  obtain ⟨h1,h2⟩:=hf q h.1.1
  rw [List.map_cons,dH,h2]
  simp only [Bool.and_eq_true]
  exact ⟨⟨h1,h.1.2⟩,wv hf h.2⟩
theorem sO {t:List Qu} (hv:df t=true) (p:Pr):TP t (cf t p).1 p∧p ∉ aF (cf t p).1:=by
 have e:(cf t p).1=t.map (nD p):=by
  unfold cf
  rw [hv]
  exact oA p t
 rw [e]
 obtain ⟨h1,h2,h3⟩:=bD hv
 have hsd:∀q∈t,ax q=true:=fun q hq=>cA hv hq
 have hnm:es (t.map (nD p))=es t:=by
  unfold es
  rw [List.map_map]
  exact List.map_congr_left fun q hq=>by
   show (nD p q).res.name=_
   rw [(kx (hsd q hq)).1.res]
 have hnp:p ∉ aF (t.map (nD p)):=by
  intro hm
  unfold aF at hm
  rw [ct,fR] at hm
  obtain ⟨q,hq,hpq⟩:=hm
  obtain ⟨q0,hq0,rfl⟩:=List.mem_map.1 hq
  have k:=kx (p:=p) (hsd q0 hq0)
  have:=(dA (aK k.1.ok) p).1 hpq
  rw [k.2] at this
  cases this
 have hsub:∀r∈aF (t.map (nD p)),r=p∨r∈aF t:=by
  intro r hr
  by_cases hrp:r=p
  ·exact .inl hrp
  ·right
   unfold aF at hr ⊢
   rw [ct,fR] at hr ⊢
   obtain ⟨q,hq,hrq⟩:=hr
   obtain ⟨q0,hq0,rfl⟩:=List.mem_map.1 hq
   have k:=kx (p:=p) (hsd q0 hq0)
   exact ⟨q0,hq0,(dA (aK (hsd q0 hq0)) r).2 ((k.1.eff r hrp).has ((dA (aK k.1.ok) r).1 hrq))⟩
 refine ⟨⟨?_,hnm,fun n hn=>?_,hsub⟩,hnp⟩
 ·unfold df fy
  simp only [Bool.and_eq_true,decide_eq_true_eq]
  refine ⟨⟨by simpa using h1,wv (fun q hq=>⟨(kx hq).1.ok,(kx hq).1.res⟩) h2⟩,?_⟩
  have:=gH (m:=aF t) (fb (t.map (nD p))) fun r hr=>by
   rcases hsub r hr with e|e
   ·exact absurd (e▸hr) hnp
   ·exact e
  omega
 ·obtain ⟨i,hi,e1,e2,e3⟩:=ny hn
  have e4:aX (t.map (nD p)) n=nD p (aX t n):=by
   rw [e3]
   unfold aX
   rw [(ef hnm n).2,e1]
   simp [hi]
  rw [e4]
  exact (kx (cA hv (dg hn).1)).1
def IX (w:Wk) (i:Nat):Wk:=Wk.note ⟨{ w.c with queues:=(cf w.c.queues (w.pc i).proc).1,procs:=w.c.procs.eraseIdx i },w.ev++(cf w.c.queues (w.pc i).proc).2⟩ 5 (w.pc i).proc
theorem ww {w:Wk} {i:Nat} (h:CI w.c) (hi:i<w.c.procs.length):CI (IX w i).c:=by
 obtain ⟨htp,hnp⟩:=sO h.tv (w.pc i).proc
 have hpc:=bv hi
 have hmem:∀{x:Pc},x∈w.c.procs.eraseIdx i→x∈w.c.procs:=fun hx=>List.mem_of_mem_eraseIdx hx
 have hne:∀x∈w.c.procs.eraseIdx i,x.proc≠(w.pc i).proc:=by
  intro x hx
  obtain ⟨j,hj,hji,e⟩:=List.mem_eraseIdx_iff_getElem.1 hx
  rw [hpc,←e]
  exact wn h hj hi hji
 show CI ({ w.c with queues:=(cf w.c.queues (w.pc i).proc).1,procs:=w.c.procs.eraseIdx i }:Cs)
 refine ⟨h.now,htp.v,?_,?_,fun r hr=>?_,fun x hx=>?_⟩
 ·have:=(List.eraseIdx_sublist w.c.procs i).length_le
  have:=h.len
  show (w.c.procs.eraseIdx i).length≤8
  omega
 ·exact h.asc.sublist ((List.eraseIdx_sublist _ _).map _)
 ·have hrp:r≠(w.pc i).proc:=fun e=>hnp (e▸hr)
  rcases htp.sub r hr with e|e
  ·exact absurd e hrp
  ·obtain ⟨x,hx,hxr⟩:=List.mem_map.1 (h.cov r e)
   obtain ⟨j,hj,e2⟩:=List.mem_iff_getElem.1 hx
   refine List.mem_map.2 ⟨x,List.mem_eraseIdx_iff_getElem.2 ⟨j,hj,fun e3=>?_,e2⟩,hxr⟩
   subst e3
   apply hrp
   rw [hpc,e2,hxr]
 ·exact (h.inv x (hmem hx)).tp htp (hne x hx)
theorem y8 {w:Wk} {i:Nat} (h:CI w.c) (hi:i<w.c.procs.length):CI (iq w i).c∧(∀x∈(iq w i).c.procs,eu (iq w i).c.queues x=false)∧KW w.c.procs (iq w i).c.procs∧(iq w i).c.now=w.c.now∧(iq w i).c.procs.map (·.proc)=(w.c.procs.eraseIdx i).map (·.proc)∧KO (w.pc i).proc w.c.procs (iq w i).c.procs∧es (iq w i).c.queues=es w.c.queues:=by
 have htp:=(sO h.tv (w.pc i).proc).1
 have hpc:=bv hi
 have hmem:∀{x:Pc},x∈w.c.procs.eraseIdx i→x∈w.c.procs:=fun hx=>List.mem_of_mem_eraseIdx hx
 have hci:CI (IX w i).c:=ww h hi
 have e:iq w i=br (Wk.note ⟨{ w.c with queues:=(cf w.c.queues (w.pc i).proc).1,procs:=w.c.procs.eraseIdx i },w.ev++(cf w.c.queues (w.pc i).proc).2⟩ 5 (w.pc i).proc):=rfl
 rw [e]
 obtain ⟨k1,k2,k3⟩:=iz (w:=Wk.note ⟨{ w.c with queues:=(cf w.c.queues (w.pc i).proc).1,procs:=w.c.procs.eraseIdx i },w.ev++(cf w.c.queues (w.pc i).proc).2⟩ 5 (w.pc i).proc) hci
 refine ⟨k1,k2,fun x hx hw=>hmem (k3.kw x hx hw),k3.now,k3.pr,KO.then (fun x hx hxp=>?_) (iA (w:=Wk.note ⟨{ w.c with queues:=(cf w.c.queues (w.pc i).proc).1,procs:=w.c.procs.eraseIdx i },w.ev++(cf w.c.queues (w.pc i).proc).2⟩ 5 (w.pc i).proc) hci).gr,k3.nm.trans htp.nm⟩
 obtain ⟨j,hj,e2⟩:=List.mem_iff_getElem.1 hx
 exact ⟨x,List.mem_eraseIdx_iff_getElem.2 ⟨j,hj,fun e3=>by subst e3;rw [hpc,e2] at hxp;exact hxp rfl,e2⟩,GrP.refl x⟩
theorem xV (w:Wk) (i:Nat) (n:ByteArray):dY w i n=bif (w.pc i).waiting then (w,14) else bif decide (az (w.pc i).led.entries n=⟨0,0⟩) then (w,10) else (a8 (rr w i n).c.procs.length (rr w i n),0):=rfl
theorem jS (w:Wk) (x:Pc) (n:ByteArray):(bw w x n).c.procs=w.c.procs:=by
 unfold bw cd
 have h1:(fg w x.proc n).c.procs=w.c.procs:=by unfold fg;cases (ap (aX w.c.queues n) x.proc).isSome <;> rfl
 cases decide (aq (aX (fg w x.proc n).c.queues n).holds x.proc=az x.led.entries n)
 ·exact h1
 ·exact h1
theorem fo (x:Pc):∀(l:List Tm) (w:Wk),(c9 x l w).c.procs=w.c.procs
 | [],_=>rfl
 | a :: l,w=>(fo x l (bw w x a.name)).trans (jS w x a.name)
def AI (p:Pr):List Tm→Wk→Prop
 | [],_=>True
 | a :: l,w=>aO w.c.queues a.name=true∧w.ev.length≤900000∧AI p l (cd w p a.name a.am)
theorem jT (w:Wk) (p:Pr) (n:ByteArray) (l:Am):(cd w p n l).c.procs=w.c.procs:=by
 unfold cd
 cases decide (aq (aX w.c.queues n).holds p=l) <;> rfl
theorem ia (p:Pr):∀(l:List Tm) (w:Wk),(bP p l w).c.procs=w.c.procs
 | [],_=>rfl
 | a :: l,w=>(ia p l (cd w p a.name a.am)).trans (jT w p a.name a.am)
theorem wx (w:Wk) (i:Nat) (n:Int):cX w i n=bif !decide ((dF (w.pc i).led n).2.2=0) then (w,(dF (w.pc i).led n).2.2) else (a8 (oN w i n).c.procs.length (oN w i n),0):=rfl
theorem Fe {w:Wk} {i:Nat} {x:Pc} (hx:w.c.procs[i]? = some x):∃y,(lU w i).c.procs[i]? = some y∧y.proc=x.proc:=by
 have hi:=(List.getElem?_eq_some_iff.1 hx).1
 unfold lU
 cases (w.pc i).waiting with
 | false=>exact ⟨x,hx,rfl⟩
 | true =>
  refine ⟨{ (c9 (w.pc i) (cj (w.pc i).req.expr) w).pc i with waiting:=false,req:=Rq.zero,since:=0 },?_,?_⟩
  ·show (List.set _ _ _)[i]? = _
   rw [List.getElem?_set_self (by rw [fo];exact hi)]
  ·show ((c9 (w.pc i) (cj (w.pc i).req.expr) w).pc i).proc=x.proc
   unfold Wk.pc
   rw [fo,List.getD_eq_getElem?_getD,hx]
   rfl
theorem CX (w:Wk) (i:Nat):(lU w i).c.procs.length=w.c.procs.length:=by
 unfold lU
 cases (w.pc i).waiting with
 | false=>rfl
 | true=>show (aC w i).c.procs.length=_;unfold aC gI;rw [wu,fo]
theorem AJ (g:Lg) (n:Int):(dF g n).2.1.length≤72:=by
 unfold dF
 cases hV:qY g with
 | false=>simp
 | true =>
  have h1:=(gp hV).1
  rw [Bool.not_true,cond_false]
  cases (!decide (n=0) && decide (aT n 0 g.saves<0)) with
  | true=>simp
  | false =>
   rw [cond_false]
   simp only [List.length_map]
   have:=fY (g.entries.drop (cc g n).entries.length) []
   simp at this
   unfold bE
   omega
def Hf (w:Wk):Wk:=bf (aC (w.note 4 (w.pc (du w).toNat).proc) (du w).toNat) (du w).toNat
def TkOk:Nat→Wk→Prop
 | 0,w=>w.c.procs.length≤100000∧IV w.c.procs∧du w<0
 | n+1,w=>w.c.procs.length≤100000∧IV w.c.procs∧(0≤du w→w.ev.length≤900000∧(du w).toNat<w.c.procs.length∧
   Fa (w.pc (du w).toNat) (cj (w.pc (du w).toNat).req.expr) (w.note 4 (w.pc (du w).toNat).proc)∧StOk (Hf w).c.procs.length (Hf w)∧TkOk n (a8 (Hf w).c.procs.length (Hf w)))
theorem TkOk.len {n:Nat} {v:Wk} (h:TkOk n v):v.c.procs.length≤100000∧IV v.c.procs:=by cases n <;> exact ⟨h.1,h.2.1⟩
theorem qA (n:Nat) (w:Wk):fV (n+1) w=bif decide (du w<0) then w else fV n (a8 (Hf w).c.procs.length (Hf w)):=rfl
def IY (w:Wk) (n:Int):Wk:=⟨{ w.c with now:=w.c.now+n },w.ev⟩
theorem Ff (w:Wk) (n:Int):iu w n=bif !(decide (0≤n) && decide (n≤1000)) then (w,1) else bif decide (1073741824-n<w.c.now) then (w,16) else (fV w.c.procs.length (IY w n),0):=rfl
structure CatOk (l:List Rs):Prop where
 len:l.length≤8
 ok:∀x∈l,jr x=true
 asc:∀i (h:i+1<l.length),iM (l[i]'(by omega)).name l[i+1].name=true
theorem CY {t:List Qu} (h:df t=true):CatOk (bU t):=by
 have hp:=bD h
 refine ⟨by simp [bU];exact hp.1,fun x hx=>?_,fun i hi=>?_⟩
 ·obtain ⟨q,hq,rfl⟩:=List.mem_map.1 hx
  exact (aK (cA h hq)).res
 ·have:=(jM hp.2.1).1
  have hi':i+1<t.length:=by simpa [bU] using hi
  have h2:=(List.pairwise_iff_getElem.1 this) i (i+1) (by simp [es];omega) (by simp [es];omega) (by omega)
  simpa [es,bU] using h2
theorem IZ {a b:ByteArray} (h:iM a b=true):(!Op.bytesLess a.toList b.toList)=false:=by
 unfold iM at h
 rw [h]
 rfl
theorem ky (l:List Rs) (hc:CatOk l):FSpec prog 39 [.one (.sl de l)] [] [] (.b true) []:=by
 refine aS func39 ?_
 have h8:=hc.len
 repeat' (first
  | refine ah ?_ ?_
  | refine af ?_
  | exact ai|refine ae fun hb=>?_)
 refine aj (fun i=>i≤l.length) (fun i=>bH [] [(0,.c (.sl de l)),(3,.i i)] []) (fun i=>l.length-i) 0 (Nat.zero_le _) (by exact ao (qf [])) ?_
 intro i hi
 by_cases hlt:i<l.length
 ·have hv:=hc.ok _ (List.getElem_mem hlt)
  rcases Nat.eq_zero_or_pos i with h0|h0
  ·subst h0
   repeat' (first
    | refine ah ?_ ?_
    | refine aa 9 rfl (cB [] (qc (l[0]'(by omega))) ?_)
    | refine af ?_
    | exact ai|refine ae fun hb=>?_)
   refine ⟨0+1,by omega,by omega,?_⟩
   exact ao (qf [])
  ·obtain ⟨y,hy⟩:∃y,l[((i:Int)-1).toNat]? = some y:=⟨_,List.getElem?_eq_getElem (by omega)⟩
   have hlt2:(!Op.bytesLess y.name.toList l[i].name.toList)=false:=by
    refine IZ ?_
    have:=hc.asc (i-1) (by omega)
    rw [show ((i:Int)-1).toNat=i-1 by omega,List.getElem?_eq_getElem (by omega)] at hy
    rw [Option.some.inj hy] at this
    simpa [show i-1+1=i by omega] using this
   repeat' (first
    | refine ah ?_ ?_
    | refine aa 9 rfl (cB [] (qc l[i]) ?_)
    | refine af ?_
    | exact ai|(refine ae fun hb=>?_;first|(exact Bool.noConfusion ((congrArg (!·) hb).symm.trans hlt2))|skip))
   refine ⟨i+1,by omega,by omega,?_⟩
   exact ao (qf [])
 ·skip
  repeat' (first
   | refine ah ?_ ?_
   | refine af ?_
   | exact ai|refine ae fun hb=>?_
   | (refine aE (qf []) ?_;exact ab))
def ly (n:ByteArray) (t:List Qu):Rs:=bif aO t n then (aX t n).res else ⟨⟨#[]⟩,0,0,0⟩
theorem qB {n:ByteArray}:∀{t:List Qu} {k:Nat},bi n k t = -1∨∃i,∃h:i<t.length,bi n k t=((k+i:Nat):Int)∧t[i].res.name.toList == n.toList∧∀j (hj:j<i),(t[j].res.name.toList == n.toList)=false
 | [],_=>.inl rfl
 | q :: l,k=>by
  unfold bi
  cases hq:q.res.name.toList == n.toList with
  | true=>exact .inr ⟨0,by simp,by simp,by simpa using hq,fun j hj=>absurd hj (Nat.not_lt_zero _)⟩
  | false =>
   rcases qB (n:=n) (t:=l) (k:=k+1) with h|⟨i,hi,h1,h2,h3⟩
   ·exact .inl (by simpa using h)
   ·refine .inr ⟨i+1,by simpa using hi,by rw [cond_false,h1];congr 1;omega,by simpa using h2,fun j hj=>?_⟩
    cases j with
    | zero=>simpa using hq
    | succ j=>simpa using h3 j (by omega)
theorem sP {n:ByteArray}:∀{t:List Qu} {k:Nat},bi n k t<0→∀j (hj:j<t.length),(t[j].res.name.toList == n.toList)=false
 | [],_,_,j,hj=>by simp at hj
 | q :: l,k,h,j,hj=>by
  unfold bi at h
  cases hq:q.res.name.toList == n.toList with
  | true=>rw [hq,cond_true] at h;omega
  | false =>
   rw [hq,cond_false] at h
   cases j with
   | zero=>simpa using hq
   | succ j=>simpa using sP h j (by simpa using hj)
theorem CZ (t:List Qu) (n:ByteArray):FSpec prog 212 [.one (.sl de (bU t)),.one (.sc (.string n))] [] [] (.tup [(ly n t).a,.one (.sc (.bool (aO t n)))]) []:=by
 refine aS func212 ?_
 obtain ⟨L,hL⟩:∃L,bU t=L:=⟨_,rfl⟩
 rw [hL]
 have hLl:L.length=t.length:=by rw [←hL];simp [bU]
 have hLg:∀i (h:i<L.length),L[i]=(t[i]'(by omega)).res:=by intro i h;simp [←hL,bU]
 refine aH (fun c ρ a w hr=>bh (t:=0) hr rfl) (fun hl0=>?_)
 by_cases hf:bi n 0 t<0
 ·have hall:=sP hf
  have hh:aO t n=false:=by simp [aO];omega
  rw [show ly n t=⟨⟨#[]⟩,0,0,0⟩ by simp [ly,hh],hh]
  repeat' (first
   | refine ah ?_ ?_
   | refine af ?_
   | exact ai|refine ae fun hb=>?_)
  refine aj (fun i=>i≤L.length) (fun i=>bH [4] [(0,.c (.sl de L)),(1,.c (.sc (.string n))),(4,.c (.ptr 4 0)),(6,.i i)] [(4,.box 55 [.sc (.string ⟨#[]⟩),.sc (.int .i64 0),.sc (.int .i64 0),.sc (.int .i64 0)])]) (fun i=>L.length-i) 0 (Nat.zero_le _) (by exact ao (qf [])) ?_
  intro i hi
  by_cases hlt:i<L.length
  ·have h1:=hall i (by omega)
   rw [←congrArg Rs.name (hLg i hlt)] at h1
   repeat' (first
    | refine ah ?_ ?_
    | refine af ?_
    | exact ai|(refine ae fun hb=>?_;first|(exact Bool.noConfusion (((beq_iff_eq.2 hb).symm.trans h1):true=false))|(exact hb.elim)|skip))
   refine ⟨i+1,by omega,by omega,?_⟩
   exact ao (qf [])
  ·skip
   repeat' (first
    | refine ah ?_ ?_
    | refine af ?_
    | exact ai|refine ae fun hb=>?_
    | (refine fL (qf []) ?_;exact ab))
 ·rcases qB (n:=n) (t:=t) (k:=0) with h|⟨k,hk,hF,h2,h3⟩
  ·omega
  have hh:aO t n=true:=by simp [aO];omega
  have hq:aX t n=t[k]:=by
   obtain ⟨j,hj,hF2,hq,_⟩:=eK hf
   have:j=k:=by rw [hF] at hF2;omega
   subst this
   exact hq
  rw [show ly n t=t[k].res by simp [ly,hh,hq],hh]
  repeat' (first
   | refine ah ?_ ?_
   | refine af ?_
   | exact ai|refine ae fun hb=>?_)
  refine aj (fun i=>i≤k) (fun i=>bH [4] [(0,.c (.sl de L)),(1,.c (.sc (.string n))),(4,.c (.ptr 4 0)),(6,.i i)] [(4,.box 55 [.sc (.string ⟨#[]⟩),.sc (.int .i64 0),.sc (.int .i64 0),.sc (.int .i64 0)])]) (fun i=>L.length-i) 0 (Nat.zero_le _) (by exact ao (qf [])) ?_
  intro i hi
  have hlt:i<L.length:=by omega
  by_cases hik:i=k
  ·subst hik
   have h1:=h2
   rw [←hLg i hlt] at h1 ⊢
   rw [beq_iff_eq] at h1
   repeat' (first
    | refine ah ?_ ?_
    | refine af ?_
    | exact ai|refine ae fun hb=>?_
    | (refine fL (qf []) ?_;exact ab))
  ·have h1:=h3 i (by omega)
   rw [←congrArg Rs.name (hLg i hlt)] at h1
   repeat' (first
    | refine ah ?_ ?_
    | refine af ?_
    | exact ai|(refine ae fun hb=>?_;first|(exact Bool.noConfusion (((beq_iff_eq.2 hb).symm.trans h1):true=false))|skip))
   refine ⟨i+1,by omega,by omega,?_⟩
   exact ao (qf [])
def oO (t:List Qu) (a:Tm):Int:=bif !aO t a.name then 10 else bif !aD (aX t a.name).res a.am then 12 else 0
theorem nE (t:List Qu) (n:ByteArray) {b:Bool} {r:Rs} (h:aO t n=b) (h2:ly n t=r):FSpec prog 212 [.one (.sl de (bU t)),.one (.sc (.string n))] [] [] (.tup [r.a,.one (.sc (.bool b))]) []:=h▸h2▸CZ t n
theorem I0 (t:List Qu) (a:Tm) (hV:df t=true):FSpec prog 145 [.one (.sl de (bU t)),a.a] [] [] (.i (oO t a)) []:=by
 refine aS func145 ?_
 have hc:=CY hV
 cases hh:aO t a.name with
 | false =>
  have hr:ly a.name t=⟨⟨#[]⟩,0,0,0⟩:=by simp [ly,hh]
  rw [show oO t a=10 by simp [oO,hh]]
  repeat' (first
   | refine ah ?_ ?_
   | (refine aa 9 rfl ?_;first
    | (refine cB [] (ky (bU t) hc) ?_)
    | (refine cB [] (nE t a.name hh hr) ?_))
   | refine af ?_
   | exact ai|refine ae fun hb=>?_
   | (refine aE (qf []) ?_;exact ab))
 | true =>
  have hr:ly a.name t=(aX t a.name).res:=by simp [ly,hh]
  cases hf:aD (aX t a.name).res a.am with
  | false =>
   rw [show oO t a=12 by simp [oO,hh,hf]]
   repeat' (first
    | refine ah ?_ ?_
    | (refine aa 9 rfl ?_;first
     | (refine cB [] (ky (bU t) hc) ?_)
     | (refine cB [] (nE t a.name hh hr) ?_)
     | (refine cB [] (mG (aX t a.name).res a.am) ?_))
    | refine af ?_
    | exact ai|refine ae fun hb=>?_
    | (refine aE (qf []) ?_;exact ab))
  | true =>
   rw [show oO t a=0 by simp [oO,hh,hf]]
   repeat' (first
    | refine ah ?_ ?_
    | (refine aa 9 rfl ?_;first
     | (refine cB [] (ky (bU t) hc) ?_)
     | (refine cB [] (nE t a.name hh hr) ?_)
     | (refine cB [] (mG (aX t a.name).res a.am) ?_))
    | refine af ?_
    | exact ai|refine ae fun hb=>?_
    | (refine aE (qf []) ?_;exact ab))
theorem xW (t:List Qu) (a:Tm) (l:List Tm):eG t (a :: l)=bif !decide (oO t a=0) then oO t a else eG t l:=by
 rw [show eG t (a :: l)=bif !aO t a.name then 10 else bif !aD (aX t a.name).res a.am then 12 else eG t l from rfl]
 unfold oO
 cases aO t a.name <;> cases aD (aX t a.name).res a.am <;> rfl
theorem C0 (t:List Qu) (a:Tm) (hV:df t=true) {e:Int} (h:oO t a=e):FSpec prog 145 [.one (.sl de (bU t)),a.a] [] [] (.i e) []:=h▸I0 t a hV
theorem J0 (d:Nat) (t:List Qu) (x:Ex) (hV:df t=true):FSpec prog 71 [.one (.sl de (bU t)),x.a d] [] [] (.i (go t x)) []:=by
 refine aS func71 ?_
 have h8:=dN x
 obtain ⟨L,hL⟩:∃L,cj x=L:=⟨_,rfl⟩
 rw [hL] at h8
 cases hv:ib x with
 | false =>
  rw [show go t x=1 by simp [go,hv]]
  repeat' (first
   | refine ah ?_ ?_
   | refine aa 9 rfl (cC [] (wi d x hv hL) ?_)
   | refine af ?_
   | exact ai|refine ae fun hb=>?_
   | (refine aE (qf []) ?_;exact ab))
 | true =>
  rw [show go t x=eG t L by simp [go,hv,hL]]
  repeat' (first
   | refine ah ?_ ?_
   | refine aa 9 rfl (cC [] (wi d x hv hL) ?_)
   | refine af ?_
   | exact ai|refine ae fun hb=>?_)
  refine aj (fun i=>i≤L.length∧eG t (L.drop i)=eG t L) (fun i=>bH [] [(0,.c (.sl de (bU t))),(5,.c (.sl bV L)),(7,.i i)] []) (fun i=>L.length-i) 0 ⟨Nat.zero_le _,rfl⟩ (by exact ao (qf [])) ?_
  rintro i ⟨hi,hs⟩
  by_cases hlt:i<L.length
  ·rw [List.drop_eq_getElem_cons hlt,xW] at hs
   obtain ⟨e,he⟩:∃e,oO t L[i]=e:=⟨_,rfl⟩
   rw [he] at hs
   by_cases h0:e=0
   ·subst h0
    repeat' (first
     | refine ah ?_ ?_
     | refine aa 9 rfl (cB [] (C0 t L[i] hV he) ?_)
     | refine af ?_
     | exact ai|(refine ae fun hb=>?_;first|(exact (hb rfl).elim)|skip))
    refine ⟨i+1,⟨by omega,by rw [←hs];rfl⟩,by omega,?_⟩
    exact ao (qf [])
   ·rw [←hs,decide_eq_false h0,Bool.not_false,cond_true]
    repeat' (first
     | refine ah ?_ ?_
     | refine aa 9 rfl (cB [] (C0 t L[i] hV he) ?_)
     | refine af ?_
     | exact ai|refine ae fun hb=>?_
     | (refine aE (qf []) ?_;exact ab))
  ·rw [←hs,List.drop_eq_nil_of_le (by omega),show eG t []=0 from rfl]
   repeat' (first
    | refine ah ?_ ?_
    | refine af ?_
    | exact ai|refine ae fun hb=>?_
    | (refine aE (qf []) ?_;exact ab))
theorem qC (t:List Qu) (p:Pr) (a:Tm) (prio:Int):(bJ t p a prio).2.1.length≤18:=by
 unfold bJ
 cases hV:df t with
 | false=>simp [eR]
 | true =>
  by_cases hf:bi a.name 0 t<0
  ·simp [hf,eR]
  ·obtain ⟨i,hi,hF,hq,hx⟩:=eK hf
   have:=qh (cA hV (List.getElem_mem hi)) p a.am prio
   rw [hq]
   generalize (decide ((aF t).length=8) && !decide (p∈aF t))=b
   cases b <;> cases decide ((bK t[i] p a.am prio).2.2=0) <;> simp [hf,eR,fX] <;> omega
theorem xX (w:Wk) (i:Nat) (r:Rq):cP w i r=bif (w.pc i).waiting then (w,14) else bif !oM r then (w,1) else bif !decide (go w.c.queues r.expr=0) then (w,go w.c.queues r.expr) else (a8 (CW w i r).c.procs.length (CW w i r),0):=rfl
instance (d:Nat):ST prog (fh d) 24 63 184:=⟨ElTB.mk' underlying24 (.agg #[.int .i64 0,.int .i64 0,.int .i64 0,.int .i64 0,.slice none 0 0,.slice none 0 0,.bool false,.int .i64 0,.string ⟨#[]⟩,.int .i64 0,.int .i64 0,.slice none 0 0,.int .i64 0,.int .i64 0,.int .i64 0,.int .i64 0]) 16 184 (by kernel_rfl) rfl rfl⟩
theorem C4 (l:List Pc) (d:Nat) (p:Pr):FSpec prog 30 [.one (.sl (fh d) l),.ag [.sc (.int .i64 p.site),.sc (.int .i64 p.inc),.sc (.int .i64 p.num)]] [] [] (.i (cK p 0 l)) []:=by
 refine fP func30 rfl (fun b W=>by kernel_rfl) rfl (Nat.le_of_ble_eq_true rfl) ?_
 refine aH (fun c ρ a w hr=>bh (t:=0) hr rfl) (fun hl=>?_)
 repeat' (first
  | refine ah ?_ ?_
  | refine af ?_
  | exact ai|refine ae fun hb=>?_)
 refine aj (fun i=>i≤l.length∧cK p i (l.drop i)=cK p 0 l) (fun i=>bH [3] [(0,.c (.sl (fh d) l)),(3,.c (.ptr 3 0)),(5,.i i)] [(3,.box 35 [.sc (.int .i64 p.site),.sc (.int .i64 p.inc),.sc (.int .i64 p.num)])]) (fun i=>l.length-i) 0 ⟨Nat.zero_le _,rfl⟩
  (by refine B2 (qf []) rfl ?_ ?_ <;> repeat' (first|exact trivial|exact iY rfl|exact ⟨_,rfl,fQ rfl⟩|refine ⟨?_,?_⟩)) ?_
 rintro i ⟨hi,hs⟩
 repeat' (first
  | refine ah ?_ ?_
  | refine af ?_
  | exact ai|refine ae fun hb=>?_)
 ·refine xy (.inr rfl) rfl rfl ?_
  rw [←hs,List.drop_eq_getElem_cons (by omega)]
  simp [cK,hb]
 ·refine ⟨i+1,⟨by omega,?_⟩,by omega,?_⟩
  ·rw [←hs,List.drop_eq_getElem_cons (i:=i) (by omega)]
   simp [cK,hb]
  ·refine B2 (qf []) rfl ?_ ?_ <;> repeat' (first|exact trivial|exact iY rfl|exact ⟨_,rfl,fQ rfl⟩|refine ⟨?_,?_⟩)
 ·refine xy (.inr rfl) rfl rfl ?_
  rw [←hs,List.drop_eq_nil_of_le (by omega)]
  rfl
def I1 (p:Pr) (P:List Pc):Prop:=∀i j (hi:i<P.length) (hj:j<P.length),i≤j→0<bt P[i].proc p→0<bt P[j].proc p
theorem C5 (x:Pc):∀(P:List Pc) (k:Nat),k≤P.length→(∀j (hj:j<P.length),j<k→¬0<bt P[j].proc x.proc)→(∀j (hj:j<P.length),k≤j→0<bt P[j].proc x.proc)→lj x P=P.take k++x :: P.drop k
 | [],k,hk,_,_=>by
  obtain rfl:k=0:=by simpa using hk
  rfl
 | y :: P,0,_,_,h2=>by
  have:=h2 0 (by simp) (Nat.le_refl _)
  simp only [List.getElem_cons_zero] at this
  simp [lj,this]
 | y :: P,k+1,hk,h1,h2=>by
  have h3:=h1 0 (by simp) (by omega)
  simp only [List.getElem_cons_zero] at h3
  have ih:=C5 x P k (by simpa using hk) (fun j hj hjk=>by have:=h1 (j+1) (by simpa using hj) (by omega);simpa using this) (fun j hj hjk=>by have:=h2 (j+1) (by simpa using hj) (by omega);simpa using this)
  simp [lj,h3,ih]
theorem Fg (l:List Pc) (d:Nat) (p:Pr) {z:Int} (h:cK p 0 l=z):FSpec prog 30 [.one (.sl (fh d) l),p.a] [] [] (.i z) []:=h▸C4 l d p
theorem C6 {α:Type} {R:α→α→Prop} (irr:∀a,¬R a a) (asy:∀a b,R a b→¬R b a):∀{l l':List α},l.Pairwise R→l'.Pairwise R→(∀x,x∈l↔x∈l')→l=l'
 | [],[],_,_,_=>rfl
 | [],b :: m,_,_,h=>absurd ((h b).2 (by simp)) (by simp)
 | a :: l,[],_,_,h=>absurd ((h a).1 (by simp)) (by simp)
 | a :: l,b :: m,h1,h2,h=>by
  obtain ⟨k1,k2⟩:=List.pairwise_cons.1 h1
  obtain ⟨k3,k4⟩:=List.pairwise_cons.1 h2
  have hab:a=b:=by
   rcases List.mem_cons.1 ((h a).1 (by simp)) with e|e
   ·exact e
   ·rcases List.mem_cons.1 ((h b).2 (by simp)) with e2|e2
    ·exact e2.symm
    ·exact absurd (k1 b e2) (asy b a (k3 a e))
  subst hab
  congr 1
  refine C6 irr asy k2 k4 fun x=>⟨fun hx=>?_,fun hx=>?_⟩
  ·rcases List.mem_cons.1 ((h x).1 (by simp [hx])) with e|e
   ·subst e;exact absurd (k1 x hx) (irr x)
   ·exact e
  ·rcases List.mem_cons.1 ((h x).2 (by simp [hx])) with e|e
   ·subst e;exact absurd (k3 x hx) (irr x)
   ·exact e
def Ir (a b:Tm):Prop:=iM a.name b.name=true
theorem Fh (a:Tm):¬Ir a a:=fun h=>by unfold Ir at h;rw [dW] at h;cases h
theorem Fi (a b:Tm) (h:Ir a b):¬Ir b a:=fun k=>by
 have:=fC h k
 rw [dW] at this
 cases this
theorem iB {g:Lg} {a:Tm}:a∈dX g↔az g.entries a.name=a.am∧a.am≠⟨0,0⟩:=by
 unfold dX
 rw [List.mem_filter,List.mem_map]
 constructor
 ·rintro ⟨⟨m,_,rfl⟩,h⟩
  rw [Bool.not_eq_true',bo] at h
  exact ⟨rfl,h⟩
 ·rintro ⟨h1,h2⟩
  refine ⟨⟨a.name,?_,by rw [h1]⟩,by rw [Bool.not_eq_true',bo];exact h2⟩
  refine Classical.byContradiction fun hn=>h2 ?_
  rw [←h1]
  exact fH a.name g.entries ⟨0,0⟩ fun e he e2=>hn (dC.2 ⟨e,he,e2⟩)
theorem AK (g:Lg):(dX g).Pairwise Ir:=by
 unfold dX
 refine List.Pairwise.sublist List.filter_sublist ?_
 rw [List.pairwise_map]
 exact fD g.entries
theorem nF {t:List Qu} {p:Pr} {a:Tm}:a∈db t p↔(∃q∈t,q.res.name=a.name∧aq q.holds p=a.am)∧a.am≠⟨0,0⟩:=by
 unfold db
 rw [List.mem_filter,List.mem_map,Bool.not_eq_true',bo]
 constructor
 ·rintro ⟨⟨q,hq,rfl⟩,h⟩
  exact ⟨⟨q,hq,rfl,rfl⟩,h⟩
 ·rintro ⟨⟨q,hq,h1,h2⟩,h⟩
  exact ⟨⟨q,hq,by rw [h1,h2]⟩,h⟩
theorem AL {t:List Qu} (hv:df t=true) (p:Pr):(db t p).Pairwise Ir:=by
 unfold db
 refine List.Pairwise.sublist List.filter_sublist ?_
 rw [List.pairwise_map]
 have:=(jM (bD hv).2.1).1
 unfold es at this
 rw [List.pairwise_map] at this
 exact this
theorem jU {p:Pr}:∀{t:List Qu},bl p t=[]↔∀q∈t,ap q p=none
 | []=>by simp [bl]
 | q :: t=>by
  unfold bl
  cases hw:ap q p with
  | some a =>
   constructor
   ·intro h;cases h
   ·intro h;have:=h q (by simp);rw [hw] at this;cases this
  | none =>
   dsimp only
   rw [jU]
   constructor
   ·intro h x hx
    rcases List.mem_cons.1 hx with rfl|hx
    ·exact hw
    ·exact h x hx
   ·intro h x hx;exact h x (by simp [hx])
theorem y9 {t:List Qu} {x:Pc} (hv:df t=true) (hf:∀n,fZ x n≠⟨0,0⟩→aO t n=true):(dX x.led=db t x.proc∧bl x.proc t=[])↔∀n,aO t n=true→FitR t n x:=by
 constructor
 ·rintro ⟨h1,h2⟩ n hn
  obtain ⟨hm,hnm⟩:=dg hn
  refine ⟨?_,jU.1 h2 _ hm⟩
  by_cases h0:aq (aX t n).holds x.proc=⟨0,0⟩
  ·rw [h0]
   refine Classical.byContradiction fun hne=>?_
   have h3:(⟨n,fZ x n⟩:Tm)∈dX x.led:=iB.2 ⟨rfl,fun e=>hne e.symm⟩
   rw [h1,nF] at h3
   obtain ⟨⟨q,hq,e1,e2⟩,_⟩:=h3
   have h4:=(kt hv hq).2
   rw [show q.res.name=n from e1] at h4
   rw [h4,e2] at h0
   exact hne h0.symm
  ·have h3:(⟨n,aq (aX t n).holds x.proc⟩:Tm)∈db t x.proc:=nF.2 ⟨⟨_,hm,hnm,rfl⟩,h0⟩
   rw [←h1,iB] at h3
   exact h3.1.symm
 ·intro h
  refine ⟨C6 Fh Fi (AK x.led) (AL hv x.proc) fun a=>?_,jU.2 fun q hq=>?_⟩
  ·rw [iB,nF]
   constructor
   ·rintro ⟨h1,h2⟩
    have hn:aO t a.name=true:=hf a.name (by show az x.led.entries a.name≠_;rw [h1];exact h2)
    obtain ⟨hm,hnm⟩:=dg hn
    exact ⟨⟨_,hm,hnm,by rw [(h a.name hn).h];exact h1⟩,h2⟩
   ·rintro ⟨⟨q,hq,e1,e2⟩,h2⟩
    obtain ⟨hn,hqa⟩:=kt hv hq
    rw [e1] at hn hqa
    have:=(h a.name hn).h
    rw [hqa,e2] at this
    exact ⟨this.symm,h2⟩
  ·obtain ⟨hn,hqa⟩:=kt hv hq
   have:=(h _ hn).w
   rw [hqa] at this
   exact this
theorem mL {α:Type} {o:Option α}:o.isSome=false↔o=none:=by cases o <;> simp
theorem oB {t:List Qu} {q:Qu} {x:Pc} (hq:aX t q.res.name=q):(decide (aq q.holds x.proc=az x.led.entries q.res.name) && !(ap q x.proc).isSome)=true↔FitR t q.res.name x:=by
 rw [Bool.and_eq_true,decide_eq_true_eq,Bool.not_eq_true',mL]
 constructor
 ·rintro ⟨h1,h2⟩;exact ⟨by rw [hq];exact h1,by rw [hq];exact h2⟩
 ·rintro ⟨h1,h2⟩;rw [hq] at h1 h2;exact ⟨h1,h2⟩
theorem oC {q:Qu} {x:Pc}:∀{l:List Tm},(∀a∈l,a.name≠q.res.name)→bS q x l=(decide (aq q.holds x.proc=az x.led.entries q.res.name) && !(ap q x.proc).isSome)
 | [],_=>rfl
 | a :: l,h=>by
  unfold bS
  rw [bR.2 (h a (by simp)),Bool.not_false,Bool.true_or,cond_true]
  exact oC fun b hb=>h b (by simp [hb])
theorem lV {t:List Qu} {q:Qu} {x:Pc} (hq:aX t q.res.name=q):∀{l:List Tm},Bl l→(bS q x l=true↔FitW t q.res.name x l)
 | [],_=>by
  unfold bS FitW
  exact oB hq
 | a :: l,hn=>by
  obtain ⟨h1,h2⟩:=List.pairwise_cons.1 hn
  have ih:=lV (x:=x) hq h2
  unfold FitW at ih ⊢
  rw [cQ]
  unfold bS
  cases hnm:aY a.name q.res.name with
  | false =>
   rw [Bool.not_false,Bool.true_or,cond_true,cond_false]
   exact ih
  | true =>
   have hname:=aZ.1 hnm
   have hno:∀b∈l,b.name≠q.res.name:=fun b hb e=>h1 b hb (hname.trans e.symm)
   rw [Bool.not_true,Bool.false_or,cond_true]
   dsimp only
   unfold FitA jn
   rw [hq]
   cases hc:bb q.res (az x.led.entries q.res.name) a.am with
   | true =>
    rw [cond_true,oC hno,oB hq]
    constructor
    ·intro h;exact .inl ⟨rfl,h⟩
    ·rintro (⟨_,h⟩|⟨h,_⟩)
     ·exact h
     ·cases h
   | false =>
    rw [cond_false]
    cases hw:ap q x.proc with
    | none =>
     simp only [Option.isSome_none,Bool.not_false,cond_true,decide_eq_true_eq]
     constructor
     ·intro h;exact .inr ⟨trivial,.inl ⟨h,trivial⟩⟩
     ·rintro (⟨h,_⟩|⟨_,⟨h,_⟩|⟨_,h,_⟩⟩)
      ·cases h
      ·exact h
      ·cases h
    | some b =>
     simp only [Option.isSome_some,Bool.not_true,cond_false]
     cases hp:q.waits.any (fun y=>decide (y.proc=x.proc) && !decide (y.prio=x.req.prio)) with
     | true =>
      rw [cond_true]
      constructor
      ·intro h;cases h
      ·rintro (⟨h,_⟩|⟨_,⟨_,h⟩|⟨_,_,h⟩⟩)
       ·cases h
       ·cases h
       ·rw [List.any_eq_true] at hp
        obtain ⟨y,hy,h3⟩:=hp
        simp only [Bool.and_eq_true,decide_eq_true_eq,Bool.not_eq_true',decide_eq_false_iff_not] at h3
        exact absurd (h y hy h3.1) h3.2
     | false =>
      rw [cond_false,Bool.and_eq_true,decide_eq_true_eq,decide_eq_true_eq]
      rw [List.any_eq_false] at hp
      constructor
      ·rintro ⟨h3,h4⟩
       refine .inr ⟨trivial,.inr ⟨h3,h4,fun y hy hyp=>?_⟩⟩
       have:=hp y hy
       simp only [Bool.and_eq_true,decide_eq_true_eq,Bool.not_eq_true',decide_eq_false_iff_not,not_and,Decidable.not_not] at this
       exact this hyp
      ·rintro (⟨h,_⟩|⟨_,⟨_,h⟩|⟨h3,h4,_⟩⟩)
       ·cases h
       ·cases h
       ·exact ⟨h3,h4⟩
def sQ (c:Cs) (x:Pc):Prop:=x.waiting=true→(x.req.limit=0∨c.now<x.since+x.req.limit)∧eu c.queues x=false
theorem nG {c:Cs} {x:Pc} (hv:df c.queues=true):lr c x=true↔PInv c.queues c.now x∧sQ c x:=by
 have hhf:(dX x.led).all (fun a=>aO c.queues a.name && aD (aX c.queues a.name).res a.am)=true↔∀n,fZ x n≠⟨0,0⟩→aO c.queues n=true∧aD (aX c.queues n).res (fZ x n)=true:=by
  rw [List.all_eq_true]
  constructor
  ·intro h n hn
   have:=h ⟨n,fZ x n⟩ (iB.2 ⟨rfl,hn⟩)
   rw [Bool.and_eq_true] at this
   exact this
  ·intro h a ha
   obtain ⟨h1,h2⟩:=iB.1 ha
   have:=h a.name (by show az x.led.entries a.name≠_;rw [h1];exact h2)
   rw [show fZ x a.name=a.am from h1] at this
   rw [Bool.and_eq_true]
   exact this
 unfold lr
 cases hw:x.waiting with
 | false =>
  simp only [Bool.not_false,cond_true,Bool.and_eq_true,decide_eq_true_eq,hhf,fc,EX]
  constructor
  ·rintro ⟨⟨⟨⟨⟨⟨⟨h1,h2⟩,h3⟩,h4⟩,h5⟩,h6⟩,h7⟩,⟨⟨h8,h9⟩,h10⟩,h11⟩
   refine ⟨⟨⟨h1,⟨h2,h3⟩,h4,⟨h5,h6⟩,h7⟩,fun _=>⟨h8,h9,(y9 hv fun n hn=>(h7 n hn).1).1 ⟨h10,h11⟩⟩,fun h=>?_⟩,fun h=>?_⟩
   ·rw [hw] at h;cases h
   ·rw [hw] at h;cases h
  ·rintro ⟨⟨⟨h1,h2,h4,h5,h7⟩,h8,_⟩,_⟩
   obtain ⟨k1,k2,k3⟩:=h8 hw
   obtain ⟨k4,k5⟩:=(y9 hv fun n hn=>(h7 n hn).1).2 k3
   exact ⟨⟨⟨⟨⟨⟨⟨h1,h2.1⟩,h2.2⟩,h4⟩,h5.1⟩,h5.2⟩,h7⟩,⟨⟨k1,k2⟩,k4⟩,k5⟩
 | true =>
  have hfw:c.queues.all (fun q=>bS q x (cj x.req.expr))=true↔∀n,aO c.queues n=true→FitW c.queues n x (cj x.req.expr):=by
   rw [List.all_eq_true]
   constructor
   ·intro h n hn
    obtain ⟨hm,hnm⟩:=dg hn
    have h1:=(lV (t:=c.queues) (q:=aX c.queues n) (x:=x) (by rw [hnm]) (lT x.req.expr)).1 (h _ hm)
    rw [hnm] at h1
    exact h1
   ·intro h q hq
    obtain ⟨hn,hqa⟩:=kt hv hq
    exact (lV hqa (lT x.req.expr)).2 (h _ hn)
  have hsat:eu c.queues x=dw x.req.expr (bd c.queues x.proc x.req.expr):=by unfold eu;rw [hw];rfl
  simp only [Bool.not_true,cond_false,Bool.and_eq_true,Bool.or_eq_true,decide_eq_true_eq,hhf,fc,hfw,Bool.not_eq_true',←hsat]
  constructor
  ·rintro ⟨⟨⟨⟨⟨⟨⟨h1,h2⟩,h3⟩,h4⟩,h5⟩,h6⟩,h7⟩,⟨⟨⟨⟨⟨h8,h9⟩,h10⟩,h11⟩,h12⟩,h13⟩,h14⟩
   refine ⟨⟨⟨h1,⟨h2,h3⟩,h4,⟨h5,h6⟩,h7⟩,fun h=>?_,fun _=>⟨⟨h8,h9,h10,h11⟩,h14⟩⟩,fun _=>⟨h12,h13⟩⟩
   rw [hw] at h;cases h
  ·rintro ⟨⟨⟨h1,h2,h4,h5,h7⟩,_,h8⟩,h9⟩
   obtain ⟨k1,k2⟩:=h8 hw
   obtain ⟨k3,k4⟩:=h9 hw
   exact ⟨⟨⟨⟨⟨⟨⟨h1,h2.1⟩,h2.2⟩,h4⟩,h5.1⟩,h5.2⟩,h7⟩,⟨⟨⟨⟨⟨k1.rq,k1.rs⟩,k1.sn.1⟩,k1.sn.2⟩,k3⟩,k4⟩,k2⟩
theorem wy (c:Cs):∀(l:List Pc) (o:Option Pr),tV c o l=true↔(∀x∈l,lr c x=true)∧(l.map (·.proc)).Pairwise fq∧∀p,o=some p→∀x∈l,fq p x.proc
 | [],o=>by simp [tV]
 | x :: l,o=>by
  unfold tV
  simp only [Bool.and_eq_true,wy c l,yH]
  constructor
  ·rintro ⟨⟨h1,h2⟩,h3,h4,h5⟩
   refine ⟨?_,?_,?_⟩
   ·intro y hy
    rcases List.mem_cons.1 hy with rfl|hy
    ·exact h1
    ·exact h3 y hy
   ·rw [List.map_cons]
    refine List.pairwise_cons.2 ⟨?_,h4⟩
    intro p hp
    obtain ⟨y,hy,rfl⟩:=List.mem_map.1 hp
    exact h5 _ rfl y hy
   ·intro p hp y hy
    rcases List.mem_cons.1 hy with rfl|hy
    ·exact h2 p hp
    ·exact cq (h2 p hp) (h5 _ rfl y hy)
  ·rintro ⟨h1,h2,h3⟩
   rw [List.map_cons] at h2
   obtain ⟨h4,h5⟩:=List.pairwise_cons.1 h2
   refine ⟨⟨h1 x (by simp),fun p hp=>h3 p hp x (by simp)⟩,fun y hy=>h1 y (by simp [hy]),h5,?_⟩
   intro p hp y hy
   injection hp with hp
   subst hp
   exact h4 _ (List.mem_map.2 ⟨y,hy,rfl⟩)
theorem qD {p:Pr}:∀{l:List Pc} {k:Nat},cK p k l<0↔∀x∈l,x.proc≠p
 | [],k=>by simp [cK]
 | x :: l,k=>by
  unfold cK
  by_cases hx:x.proc=p
  ·rw [decide_eq_true hx,cond_true]
   constructor
   ·intro h;omega
   ·intro h;exact absurd hx (h x (by simp))
  ·rw [decide_eq_false hx,cond_false,qD]
   constructor
   ·intro h y hy
    rcases List.mem_cons.1 hy with rfl|hy
    ·exact hx
    ·exact h y hy
   ·intro h y hy;exact h y (by simp [hy])
theorem iC {p:Pr}:∀{l:List Pc} {k:Nat},0≤cK p k l→∃i,∃h:i<l.length,cK p k l=((k+i:Nat):Int)∧l[i].proc=p
 | [],k,h=>by simp [cK] at h
 | x :: l,k,h=>by
  have e:cK p k (x :: l)=bif decide (x.proc=p) then (k:Int) else cK p (k+1) l:=rfl
  rw [e] at h ⊢
  by_cases hx:x.proc=p
  ·exact ⟨0,by simp,by rw [decide_eq_true hx];simp,hx⟩
  ·rw [decide_eq_false hx,cond_false] at h ⊢
   obtain ⟨i,hi,h1,h2⟩:=iC h
   exact ⟨i+1,by simpa using hi,by rw [h1];omega,by simpa using h2⟩
theorem C7 {p:Pr} {l:List Pc} {k:Nat}:0≤cK p k l↔p∈l.map (·.proc):=by
 constructor
 ·intro h
  obtain ⟨i,hi,_,e⟩:=iC h
  exact List.mem_map.2 ⟨_,List.getElem_mem hi,e⟩
 ·intro h
  obtain ⟨x,hx,e⟩:=List.mem_map.1 h
  refine Classical.byContradiction fun hn=>?_
  exact qD.1 (show cK p k l<0 by omega) x hx e
theorem eX {c:Cs}:eH c=true↔CI c∧∀x∈c.procs,sQ c x:=by
 unfold eH
 simp only [Bool.and_eq_true,decide_eq_true_eq,List.all_eq_true,wy,C7]
 constructor
 ·rintro ⟨⟨⟨⟨⟨h1,h2⟩,h3⟩,h4⟩,h5⟩,h6,h7,_⟩
  exact ⟨⟨⟨h1,h2⟩,h3,h4,h7,h5,fun x hx=>((nG h3).1 (h6 x hx)).1⟩,fun x hx=>((nG h3).1 (h6 x hx)).2⟩
 ·rintro ⟨⟨h1,h3,h4,h7,h5,h6⟩,h8⟩
  exact ⟨⟨⟨⟨⟨h1.1,h1.2⟩,h3⟩,h4⟩,h5⟩,fun x hx=>(nG h3).2 ⟨h6 x hx,h8 x hx⟩,h7,fun p hp=>by cases hp⟩
theorem iD (x:Pc):∀l:List Pc,(lj x l).Perm (x :: l)
 | []=>List.Perm.refl _
 | y :: l=>by
  show (bif decide (0<bt y.proc x.proc) then x :: y :: l else y :: lj x l).Perm _
  cases decide (0<bt y.proc x.proc) with
  | true=>exact List.Perm.refl _
  | false=>exact ((iD x l).cons y).trans (List.Perm.swap x y l)
theorem wz {x:Pc}:∀{l:List Pc},(l.map (·.proc)).Pairwise fq→(∀y∈l,y.proc≠x.proc)→((lj x l).map (·.proc)).Pairwise fq
 | [],_,_=>by simp [lj]
 | y :: l,h,hn=>by
  rw [List.map_cons] at h
  obtain ⟨h1,h2⟩:=List.pairwise_cons.1 h
  have hyx:=hn y (by simp)
  show ((bif decide (0<bt y.proc x.proc) then x :: y :: l else y :: lj x l).map (·.proc)).Pairwise fq
  by_cases hc:0<bt y.proc x.proc
  ·rw [decide_eq_true hc,cond_true,List.map_cons,List.map_cons]
   have hlt:fq x.proc y.proc:=by
    rcases gh x.proc y.proc with h3|h3|h3
    ·exact h3
    ·exact absurd h3.symm hyx
    ·have:=(gi _ _).2 h3;omega
   refine List.pairwise_cons.2 ⟨?_,List.pairwise_cons.2 ⟨h1,h2⟩⟩
   intro z hz
   rcases List.mem_cons.1 hz with rfl|hz
   ·exact hlt
   ·exact cq hlt (h1 z hz)
  ·rw [decide_eq_false hc,cond_false,List.map_cons]
   have hlt:fq y.proc x.proc:=by
    rcases cM y.proc x.proc with ⟨h5,_⟩|⟨h5,_⟩|⟨_,h6⟩
    ·exact h5
    ·exact absurd h5 hyx
    ·omega
   refine List.pairwise_cons.2 ⟨?_,wz h2 fun z hz=>hn z (by simp [hz])⟩
   intro z hz
   obtain ⟨u,hu,rfl⟩:=List.mem_map.1 hz
   rcases List.mem_cons.1 ((iD x l).mem_iff.1 hu) with rfl|hu
   ·exact hlt
   ·exact h1 _ (List.mem_map.2 ⟨u,hu,rfl⟩)
theorem Fj {t:List Qu} (hv:df t=true) {p:Pr} (hp:p ∉ aF t) {n:ByteArray} (hn:aO t n=true):aq (aX t n).holds p=⟨0,0⟩∧ap (aX t n) p=none:=by
 obtain ⟨hm,_⟩:=dg hn
 have h1:fu (aX t n) p=false:=by
  cases hh:fu (aX t n) p with
  | false=>rfl
  | true =>
   refine absurd ?_ hp
   unfold aF
   rw [ct,fR]
   exact ⟨_,hm,(dA (aK (cA hv hm)) p).2 hh⟩
 unfold fu at h1
 rw [Bool.or_eq_false_iff,mL,Bool.not_eq_false'] at h1
 exact ⟨of_decide_eq_true h1.2,h1.1⟩
theorem Fk:Ld Lg.zero:=⟨by simp [Lg.zero],fun k hk=>absurd hk (by simp [Lg.zero]),by simp [Lg.zero,bE,c5],fun x hx=>absurd hx (by simp [Lg.zero]),by simp [Lg.zero],by simp [Lg.zero]⟩
theorem za {w:Wk} {p:Pr} {cost:Int} (h:CI w.c) (he:(ls w p cost).2=0) :
  CI (ls w p cost).1.c∧(ls w p cost).1.c.queues=w.c.queues∧(ls w p cost).1.c.now=w.c.now∧(ls w p cost).1.c.procs=lj { EV with proc:=p,cost:=cost } w.c.procs:=by
 unfold ls at he ⊢
 cases hA:js p && decide (1≤cost) && decide (cost≤1000) with
 | false=>rw [hA] at he;simp at he
 | true =>
  rw [hA] at he
  simp only [Bool.not_true,cond_false] at he ⊢
  simp only [Bool.and_eq_true,decide_eq_true_eq] at hA
  by_cases hI:0≤cK p 0 w.c.procs
  ·rw [decide_eq_true hI] at he;simp at he
  ·rw [decide_eq_false hI] at he ⊢
   simp only [cond_false] at he ⊢
   by_cases hL:w.c.procs.length=8
   ·rw [decide_eq_true hL] at he;simp at he
   ·rw [decide_eq_false hL]
    simp only [cond_false]
    have hno:=(qD (k:=0)).1 (show cK p 0 w.c.procs<0 by omega)
    have hnp:p ∉ aF w.c.queues:=fun hm=>by
     obtain ⟨x,hx,e⟩:=List.mem_map.1 (h.cov p hm)
     exact hno x hx e
    have hperm:=iD { EV with proc:=p,cost:=cost } w.c.procs
    refine ⟨⟨h.now,h.tv,?_,wz h.asc fun y hy=>hno y hy,fun r hr=>?_,fun x hx=>?_⟩,by trivial,by trivial,by trivial⟩
    ·have e1:=hperm.length_eq
     rw [List.length_cons] at e1
     have e2:=h.len
     show (lj { EV with proc:=p,cost:=cost } w.c.procs).length≤8
     rw [e1]
     omega
    ·obtain ⟨x,hx,e⟩:=List.mem_map.1 (h.cov r hr)
     exact List.mem_map.2 ⟨x,hperm.mem_iff.2 (by simp [hx]),e⟩
    ·rcases List.mem_cons.1 (hperm.mem_iff.1 hx) with rfl|hx
     ·refine ⟨⟨hA.1.1,⟨hA.1.2,hA.2⟩,Fk,by simp [EV],fun n hn=>absurd rfl hn⟩,fun _=>⟨rfl,rfl,fun n hn=>?_⟩,fun hw=>by cases hw⟩
      obtain ⟨k1,k2⟩:=Fj h.tv hnp hn
      exact ⟨k1,k2⟩
     ·exact h.inv x hx
def C8 (now:Int) (x:Pc):Prop:=x.waiting=true∧x.req.limit≠0∧x.since+x.req.limit≤now
theorem lW (now:Int):∀(l:List Pc) (k:Nat) (b:Int×Int),
  ((ir now k l b).1<0→b.1<0∧∀x∈l,¬C8 now x)∧(0≤(ir now k l b).1→ir now k l b=b∨∃j,∃h:j<l.length,(ir now k l b).1=((k+j:Nat):Int)∧C8 now l[j])
 | [],k,b=>by
  constructor
  ·intro h;exact ⟨h,fun x hx=>absurd hx (by simp)⟩
  ·intro _;exact .inl rfl
 | x :: l,k,b=>by
  have e:ir now k (x :: l) b=ir now (k+1) l (bif x.waiting && !decide (x.req.limit=0) && decide (x.since+x.req.limit≤now) && (decide (b.1<0) || decide (x.since+x.req.limit<b.2)) then ((k:Int),x.since+x.req.limit) else b):=rfl
  rw [e]
  cases hc:x.waiting && !decide (x.req.limit=0) && decide (x.since+x.req.limit≤now) && (decide (b.1<0) || decide (x.since+x.req.limit<b.2)) with
  | true =>
   rw [cond_true]
   obtain ⟨h1,h2⟩:=lW now l (k+1) ((k:Int),x.since+x.req.limit)
   simp only [Bool.and_eq_true,decide_eq_true_eq,Bool.not_eq_true',decide_eq_false_iff_not] at hc
   constructor
   ·intro h
    have:=(h1 h).1
    simp only at this
    omega
   ·intro h
    rcases h2 h with h3|⟨j,hj,h3,h4⟩
    ·exact .inr ⟨0,by simp,by rw [h3];simp,⟨hc.1.1.1,hc.1.1.2,hc.1.2⟩⟩
    ·exact .inr ⟨j+1,by simpa using hj,by rw [h3];omega,by simpa using h4⟩
  | false =>
   rw [cond_false]
   obtain ⟨h1,h2⟩:=lW now l (k+1) b
   constructor
   ·intro h
    obtain ⟨h3,h4⟩:=h1 h
    refine ⟨h3,fun y hy=>?_⟩
    rcases List.mem_cons.1 hy with rfl|hy
    ·rintro ⟨k1,k2,k3⟩
     rw [k1,decide_eq_false k2,decide_eq_true k3,decide_eq_true h3] at hc
     cases hc
    ·exact h4 y hy
   ·intro h
    rcases h2 h with h3|⟨j,hj,h3,h4⟩
    ·exact .inl h3
    ·exact .inr ⟨j+1,by simpa using hj,by rw [h3];omega,by simpa using h4⟩
theorem kz (w:Wk):(du w<0→∀x∈w.c.procs,¬C8 w.c.now x)∧(0≤du w→∃h:(du w).toNat<w.c.procs.length,C8 w.c.now w.c.procs[(du w).toNat]):=by
 obtain ⟨h1,h2⟩:=lW w.c.now w.c.procs 0 (-1,0)
 constructor
 ·intro h;exact (h1 h).2
 ·intro h
  have h':0≤(ir w.c.now 0 w.c.procs (-1,0)).1:=h
  rcases h2 h with h3|⟨j,hj,h3,h4⟩
  ·rw [h3] at h';simp at h'
  ·have e:(du w).toNat=j:=by unfold du;rw [h3];omega
   exact ⟨by rw [e];exact hj,by simp only [e];exact h4⟩
theorem C9 {c:Cs} {x:Pc} (h1:¬C8 c.now x) (h2:eu c.queues x=false):sQ c x:=fun hw=>by
 refine ⟨?_,h2⟩
 by_cases h0:x.req.limit=0
 ·exact .inl h0
 ·right
  refine Classical.byContradiction fun hn=>h1 ⟨hw,h0,by omega⟩
theorem wA:∀(n:Nat) (w:Wk),CI w.c→(∀x∈w.c.procs,eu w.c.queues x=false)→ce w.c.procs≤n→CI (fV n w).c∧(∀x∈(fV n w).c.procs,sQ (fV n w).c x)∧(fV n w).c.now=w.c.now∧KW w.c.procs (fV n w).c.procs∧(fV n w).c.procs.map (·.proc)=w.c.procs.map (·.proc)
 | 0,w,h,hs,hn=>by
  refine ⟨h,fun x hx hw=>?_,rfl,KW.refl _,rfl⟩
  have hx':x∈w.c.procs:=hx
  obtain ⟨i,hi,e⟩:=List.mem_iff_getElem.1 hx'
  have:0<ce w.c.procs:=kv hi (by rw [e];exact hw)
  have hn':ce w.c.procs≤0:=hn
  omega
 | n+1,w,h,hs,hn=>by
  obtain ⟨s1,s2⟩:=kz w
  unfold fV
  by_cases he:du w<0
  ·rw [decide_eq_true he]
   exact ⟨h,fun x hx=>C9 (s1 he x hx) (hs x hx),rfl,KW.refl _,rfl⟩
  ·rw [decide_eq_false he,cond_false]
   obtain ⟨hi,hl1,hl2,hl3⟩:=s2 (by omega)
   generalize (du w).toNat=i at *
   have hc0:CI (w.note 4 (w.pc i).proc).c:=h
   have hw0:((w.note 4 (w.pc i).proc).pc i).waiting=true:=by rw [bv (w:=w.note 4 (w.pc i).proc) hi];exact hl1
   obtain ⟨k1,k2,k3,k4,_⟩:=c7 hc0 hi hw0
   have hi2:i<(aC (w.note 4 (w.pc i).proc) i).c.procs.length:=by rw [k3.len];exact hi
   have hrun:((aC (w.note 4 (w.pc i).proc) i).pc i).waiting=false:=by rw [bv hi2];simp [k4]
   obtain ⟨n1,n2,n3⟩:=gY k1 hi2 hrun
   obtain ⟨q1,q2,q3,q4,q5,q6,_⟩:=iy n1
   have k2':ce (aC (w.note 4 (w.pc i).proc) i).c.procs+1=ce w.c.procs:=k2
   obtain ⟨r1,r2,r3,r4,r5⟩:=wA n (br (bf (aC (w.note 4 (w.pc i).proc) i) i)) q1 q2 (by omega)
   refine ⟨r1,r2,?_,?_,?_⟩
   ·exact r3.trans (q4.trans (n2.now.trans k3.now))
   ·exact (k3.kw.trans n2.kw).trans (q6.trans r4)
   ·exact r5.trans (q3.trans (n2.pr.trans k3.pr))
theorem CI.later {c:Cs} (h:CI c) {n:Int} (h0:0≤n) (hm:c.now+n≤1073741824):CI { c with now:=c.now+n } :=
 ⟨by have:=h.now;show 0≤c.now+n∧c.now+n≤1073741824;omega,h.tv,h.len,h.asc,h.cov,fun x hx=>by
  have k:=h.inv x hx
  exact ⟨k.stat,k.run,fun hw=>by
   obtain ⟨k1,k2⟩:=k.wat hw
   exact ⟨⟨k1.rq,k1.rs,by have:=k1.sn;show 0≤x.since∧x.since≤c.now+n;omega⟩,k2⟩⟩⟩
theorem nH {c:Cs} {x:Pc} (h:sQ c x):eu c.queues x=false:=by
 cases hw:x.waiting with
 | true=>exact (h hw).2
 | false=>unfold eu;rw [hw];rfl
theorem Fl {w:Wk} {n:Int} (h:CI w.c) (hs:∀x∈w.c.procs,eu w.c.queues x=false) (he:(iu w n).2=0):CI (iu w n).1.c∧(∀x∈(iu w n).1.c.procs,sQ (iu w n).1.c x)∧(iu w n).1.c.now=w.c.now+n∧KW w.c.procs (iu w n).1.c.procs∧(iu w n).1.c.procs.map (·.proc)=w.c.procs.map (·.proc):=by
 unfold iu at he ⊢
 cases hA:decide (0≤n) && decide (n≤1000) with
 | false=>rw [hA] at he;simp at he
 | true =>
  rw [hA] at he
  simp only [Bool.not_true,cond_false] at he ⊢
  simp only [Bool.and_eq_true,decide_eq_true_eq] at hA
  by_cases hm:1073741824-n<w.c.now
  ·rw [decide_eq_true hm] at he;simp at he
  ·rw [decide_eq_false hm]
   simp only [cond_false]
   exact wA _ ⟨{ w.c with now:=w.c.now+n },w.ev⟩ (h.later hA.1 (by omega)) hs (mJ _)
theorem cF {α:Type} {b:Bool} {x y:α} (h:b=false):(bif b then x else y)=y:=by rw [h];rfl
theorem cT {α:Type} {b:Bool} {x y:α} (h:b=true):(bif b then x else y)=x:=by rw [h];rfl
theorem I2 {c:Cs} {k:Cm} (h:eH c=true) (he:(tW ⟨c,[]⟩ k).2=0):eH (tW ⟨c,[]⟩ k).1.c=true:=by
 obtain ⟨hci,hun⟩:=eX.1 h
 have fin:∀w:Wk,CI w.c→(∀x∈w.c.procs,eu w.c.queues x=false)→KW c.procs w.c.procs→w.c.now=c.now→eH w.c=true:=by
  intro w h1 h2 h3 h4
  refine eX.2 ⟨h1,fun x hx hw=>⟨?_,h2 x hx⟩⟩
  have h5:=h3 x hx hw
  rw [h4]
  exact (hun x h5 hw).1
 unfold tW at he ⊢
 cases hA:decide (1≤k.kind) && decide (k.kind≤9) with
 | false=>rw [hA] at he;simp at he
 | true =>
  rw [hA] at he
  simp only [Bool.not_true,cond_false] at he ⊢
  by_cases h1:k.kind=1
  ·rw [decide_eq_true h1] at he ⊢
   simp only [cond_true] at he ⊢
   obtain ⟨k1,k2,k3,k4⟩:=za hci he
   have hperm:=iD { EV with proc:=k.proc,cost:=k.n } c.procs
   refine eX.2 ⟨k1,fun x hx hw=>?_⟩
   rw [k4] at hx
   rcases List.mem_cons.1 (hperm.mem_iff.1 hx) with rfl|hx
   ·cases hw
   ·have:=hun x hx hw
    rw [k2,k3]
    exact this
  ·rw [decide_eq_false h1] at he ⊢
   simp only [cond_false] at he ⊢
   by_cases h9:k.kind=9
   ·rw [decide_eq_true h9] at he ⊢
    simp only [cond_true] at he ⊢
    obtain ⟨k1,k2,_⟩:=Fl hci (fun x hx=>nH (hun x hx)) he
    exact eX.2 ⟨k1,k2⟩
   ·rw [decide_eq_false h9] at he ⊢
    simp only [cond_false] at he ⊢
    by_cases hI:cK k.proc 0 c.procs<0
    ·rw [decide_eq_true hI] at he;simp at he
    ·rw [decide_eq_false hI] at he ⊢
     simp only [cond_false] at he ⊢
     obtain ⟨i,hi,e,_⟩:=iC (p:=k.proc) (l:=c.procs) (k:=0) (by omega)
     have ei:(cK k.proc 0 c.procs).toNat=i:=by rw [e];omega
     rw [ei] at he ⊢
     by_cases h2:k.kind=2
     ·rw [decide_eq_true h2] at he ⊢
      simp only [cond_true] at he ⊢
      have hrq:oM k.req=true:=by
       cases hq:oM k.req with
       | true=>rfl
       | false =>
        exfalso
        unfold cP at he
        rw [hq] at he
        cases hw:(Wk.pc ⟨c,[]⟩ i).waiting <;> rw [hw] at he <;> simp at he
      obtain ⟨k1,k2,k3,_,k5,_⟩:=qu hci hi he
      refine eX.2 ⟨k1,fun x hx hw=>⟨?_,k2 x hx⟩⟩
      rw [k3]
      rcases k5 x hx hw with h5|h5
      ·exact (hun x h5 hw).1
      ·rw [h5]
       unfold oM at hrq
       simp only [Bool.and_eq_true,decide_eq_true_eq] at hrq
       show k.req.limit=0∨c.now<c.now+k.req.limit
       omega
     ·rw [decide_eq_false h2] at he ⊢
      simp only [cond_false] at he ⊢
      by_cases h3:k.kind=3
      ·rw [decide_eq_true h3] at he ⊢
       simp only [cond_true] at he ⊢
       cases hw:(Wk.pc ⟨c,[]⟩ i).waiting with
       | false=>rw [hw] at he;simp at he
       | true =>
        simp only [Bool.not_true,cond_false]
        obtain ⟨k1,_,k3,k4,_⟩:=c7 hci hi hw
        have hi2:i<(aC ⟨c,[]⟩ i).c.procs.length:=by rw [k3.len];exact hi
        obtain ⟨n1,n2,_⟩:=gY k1 hi2 (by rw [bv hi2];simp [k4])
        obtain ⟨q1,q2,q3⟩:=iz n1
        have hk:=(k3.trans n2).trans q3
        exact fin _ q1 q2 hk.kw hk.now
      ·rw [decide_eq_false h3] at he ⊢
       simp only [cond_false] at he ⊢
       by_cases h4:k.kind=4
       ·rw [decide_eq_true h4] at he ⊢
        simp only [cond_true] at he ⊢
        obtain ⟨q1,q2,hk,_⟩:=qv hci hi he
        exact fin _ q1 q2 hk.kw hk.now
       ·rw [decide_eq_false h4] at he ⊢
        simp only [cond_false] at he ⊢
        by_cases h5:k.kind=5
        ·rw [decide_eq_true h5] at he ⊢
         simp only [cond_true] at he ⊢
         rcases Bool.eq_false_or_eq_true (Wk.pc ⟨c,[]⟩ i).waiting with hw|hw
         ·rw [cT hw] at he;simp at he
         ·rw [cF hw] at he ⊢
          by_cases hs:(el (Wk.pc ⟨c,[]⟩ i).led k.n).2=0
          ·rw [decide_eq_true hs]
           simp only [Bool.not_true,cond_false]
           obtain ⟨hld,hse,hld2⟩:=ER hs
           rw [hse]
           have hpc:=bv (w:=⟨c,[]⟩) hi
           have hinv:=hci.inv _ (List.getElem_mem hi)
           rw [←hpc] at hinv
           obtain ⟨hrq,hsn,hrun⟩:=hinv.run hw
           have hpv:PInv c.queues c.now { Wk.pc ⟨c,[]⟩ i with led:=⟨(Wk.pc ⟨c,[]⟩ i).led.entries,(Wk.pc ⟨c,[]⟩ i).led.saves++[⟨k.n,(Wk.pc ⟨c,[]⟩ i).led.entries.length⟩]⟩ } :=
            ⟨⟨hinv.stat.vp,hinv.stat.cost,hld2,hinv.stat.gen,hinv.stat.hf⟩,fun _=>⟨hrq,hsn,fun n hn=>(hrun n hn).led rfl rfl⟩,fun hf=>by
             have:(Wk.pc ⟨c,[]⟩ i).waiting=true:=hf
             rw [hw] at this
             cases this⟩
           have hci2:=hci.upd (c':=(Wk.setP ⟨c,[]⟩ i { Wk.pc ⟨c,[]⟩ i with led:=⟨(Wk.pc ⟨c,[]⟩ i).led.entries,(Wk.pc ⟨c,[]⟩ i).led.saves++[⟨k.n,(Wk.pc ⟨c,[]⟩ i).led.entries.length⟩]⟩ }).c) hi rfl rfl (by rw [hpc]) (TP.refl hci.tv _) hpv
           have hi2:i<(Wk.setP ⟨c,[]⟩ i { Wk.pc ⟨c,[]⟩ i with led:=⟨(Wk.pc ⟨c,[]⟩ i).led.entries,(Wk.pc ⟨c,[]⟩ i).led.saves++[⟨k.n,(Wk.pc ⟨c,[]⟩ i).led.entries.length⟩]⟩ }).c.procs.length:=by
            show i<(c.procs.set i _).length
            simpa using hi
           obtain ⟨n1,n2,_⟩:=gY hci2 hi2 (by rw [fk hi];exact hw)
           have hkw:KW c.procs (Wk.setP ⟨c,[]⟩ i { Wk.pc ⟨c,[]⟩ i with led:=⟨(Wk.pc ⟨c,[]⟩ i).led.entries,(Wk.pc ⟨c,[]⟩ i).led.saves++[⟨k.n,(Wk.pc ⟨c,[]⟩ i).led.entries.length⟩]⟩ }).c.procs:=KW.set hw
           refine fin _ n1 (fun x hx=>?_) (hkw.trans n2.kw) n2.now
           cases hxw:x.waiting with
           | false=>unfold eu;rw [hxw];rfl
           | true=>exact nH (hun x (hkw.trans n2.kw x hx hxw))
          ·rw [decide_eq_false hs] at he
           simp only [Bool.not_false,cond_true] at he
           exact absurd he hs
        ·rw [decide_eq_false h5] at he ⊢
         simp only [cond_false] at he ⊢
         by_cases h6:k.kind=6
         ·rw [decide_eq_true h6] at he ⊢
          simp only [cond_true] at he ⊢
          obtain ⟨q1,q2,hk,_⟩:=oz hci hi he
          exact fin _ q1 q2 hk.kw hk.now
         ·rw [decide_eq_false h6] at he ⊢
          simp only [cond_false] at he ⊢
          cases h8:decide (k.kind=8) && (Wk.pc ⟨c,[]⟩ i).waiting with
          | true=>rw [h8] at he;simp at he
          | false =>
           simp only [cond_false]
           obtain ⟨q1,q2,q3,q4,_⟩:=y8 (w:=⟨c,[]⟩) hci hi
           exact fin _ q1 q2 q3 q4
theorem xY {c:Cs} {k:Cm} (he:(lv c k).2.2=0):eH c=true∧eH (lv c k).1=true:=by
 unfold lv at he ⊢
 cases hc:eH c with
 | false=>rw [hc] at he;simp at he
 | true =>
  rw [hc] at he
  simp only [Bool.not_true,cond_false] at he ⊢
  by_cases h0:(tW ⟨c,[]⟩ k).2=0
  ·rw [decide_eq_true h0]
   exact ⟨trivial,I2 hc h0⟩
  ·rw [decide_eq_false h0] at he
   simp only [Bool.not_false,cond_true] at he
   exact absurd he h0
end Go.Proofs.YtjndcdcbjidocaaGreatDoor
