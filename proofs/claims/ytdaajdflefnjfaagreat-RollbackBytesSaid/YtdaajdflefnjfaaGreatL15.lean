/- Part 15 of 24 of the proof of rollbackBytes_holds (no condition). -/
import Derived.Test.YtdaajdflefnjfaaGreatL14
set_option linter.unusedVariables false
set_option linter.unusedSimpArgs false
set_option maxRecDepth 100000
set_option maxHeartbeats 64000000
namespace Go.Proofs.YtdaajdflefnjfaaGreat
open Go.RowKit Go.Proofs.Tryz
theorem sF {r:Rs} {b a:Am} (hb:aH r b=true) (h:a=⟨0,0⟩∨Ip b a):bq r b a=true:=by
 have hs:bb r=true:=by unfold aH at hb;rw [Bool.and_eq_true] at hb;exact hb.1
 rcases h with rfl|h
 ·have p0:cQ r ⟨0,0⟩=true:=by unfold cQ aO;rw [hs];rfl
  unfold bq
  rw [cE hb,p0]
  rfl
 ·rcases h with rfl|⟨h1,h2,h3⟩
  ·exact rP hb
  ·have hfb:=hb
   unfold aH at hfb
   have key:aH r a=true∧(if r.kind=1 then dy b.mode a.mode else decide (a.units≤b.units))=true:=by
    rcases da hs with ⟨hk,_⟩|⟨hk,_⟩
    ·rw [if_pos hk] at hfb ⊢
     simp only [Bool.and_eq_true,decide_eq_true_eq,fe] at hfb
     rcases h3 with ⟨h4,h5⟩|⟨_,h4,_⟩
     ·refine ⟨?_,h5⟩
      unfold aH
      rw [if_pos hk,hs]
      rcases cw h1 with ⟨h6,h7⟩|⟨h6,_⟩
      ·rw [h6,h7];rfl
      ·exact absurd h6 h4
     ·omega
    ·have hk1:¬r.kind=1:=by omega
     rw [if_neg hk1] at hfb ⊢
     simp only [Bool.and_eq_true,decide_eq_true_eq] at hfb
     rcases h3 with ⟨_,h5⟩|⟨h4,_,h5⟩
     ·rw [nW] at h5;omega
     ·refine ⟨?_,by rw [decide_eq_true_eq];omega⟩
      unfold aH
      rw [if_neg hk1,hs]
      simp only [Bool.and_eq_true,decide_eq_true_eq,Bool.true_and]
      rcases cw h1 with ⟨h6,_⟩|⟨_,h6,_⟩
      ·rw [fe] at h6;omega
      ·omega
   unfold bq
   rw [cE hb,cE key.1,dR hb,key.2]
   simp
def LwT (p:Pr):List Tm→Wk→Prop
 | [],_=>True
 | a :: l,w=>aV w.c.queues a.name=true∧LwT p l (cI w p a.name a.am)
theorem uz:∀(l:List Tm) (w:Wk) (x y:Pc),ez w.c.queues=true→PStat w.c.queues x→y.proc=x.proc→Hg l→
  (∀a∈l,a.am=iH y a.name∧iH x a.name≠⟨0,0⟩∧(a.am=⟨0,0⟩∨Ip (iH x a.name) a.am))→
  (∀n,aV w.c.queues n=true→(∀a,dK l n=some a→FitR w.c.queues n x)∧(dK l n=none→FitR w.c.queues n y))→
  WS w (cj x.proc l w) x.proc (fun _=>True)∧(∀n,aV w.c.queues n=true→FitR (cj x.proc l w).c.queues n y)∧LwT x.proc l w
 | [],w,x,y,hv,_,_,_,_,hf=>⟨WS.refl hv _ _,fun n hn=>(hf n hn).2 rfl,trivial⟩
 | a :: l,w,x,y,hv,hs,hp,hnd,hl,hf=>by
  obtain ⟨h1,h2⟩:=List.pairwise_cons.1 hnd
  obtain ⟨e1,e2,e3⟩:=hl a (by simp)
  obtain ⟨hn,hfit⟩:=hs.hf a.name e2
  have hfr:FitR w.c.queues a.name x:=(hf a.name hn).1 a (by rw [dG,aW.2 rfl];rfl)
  have hnone:dK l a.name=none:=jE.2 fun b hb e=>h1 b hb e.symm
  have hat:∀n,n≠a.name→dK (a :: l) n=dK l n:=fun n hn=>by rw [dG,cg.2 (fun h=>hn h.symm)];rfl
  have step:∃g,cI w x.proc a.name a.am=g∧WS w g x.proc (· = a.name)∧FitR g.c.queues a.name y:=by
   unfold cI
   by_cases hd:aq (bf w.c.queues a.name).holds x.proc=a.am
   ·rw [decide_eq_true hd]
    exact ⟨w,rfl,WS.refl hv _ _,by rw [hp,hd,e1],by rw [hp];exact hfr.w⟩
   ·rw [decide_eq_false hd]
    obtain ⟨_,hst,k1,k2⟩:=pu (p:=x.proc) (a:=⟨a.name,a.am⟩) hv hn (by rw [hfr.h];exact e2) hfr.w (by rw [hfr.h];exact sF hfit e3)
    exact ⟨_,rfl,WS.take hv hst,by rw [hp,←e1];exact k1,by rw [hp];exact k2⟩
  obtain ⟨g,hg,hws,hfy⟩:=step
  have e:cj x.proc (a :: l) w=cj x.proc l g:=by
   show cj x.proc l (cI w x.proc a.name a.am)=_
   rw [hg]
  rw [e]
  have ih:=uz l g x y hws.tp.v (hs.tp hws.tp) hp h2 (fun b hb=>hl b (by simp [hb])) (fun n hn2=>by
   rw [hws.tp.hasE] at hn2
   by_cases en:n=a.name
   ·subst en
    exact ⟨fun b hb=>(by rw [hnone] at hb;cases hb),fun _=>hfy⟩
   ·have h3:=hf n hn2
    rw [hat n en] at h3
    have e4:=hws.oth n en hn2
    exact ⟨fun b hb=>(h3.1 b hb).eq e4,fun h4=>(h3.2 h4).eq e4⟩)
  exact ⟨(hws.mono fun _ _=>trivial).trans ih.1,fun n hn2=>ih.2.1 n (by rw [hws.tp.hasE];exact hn2),hn,by rw [hg];exact ih.2.2⟩
theorem fU (n:ByteArray):∀(m:List En) (a:Am),(∀e∈m,e.name≠n)→dk n a m=a
 | [],_,_=>rfl
 | e :: m,a,h=>by
  show dk n (bif aT e.name n then e.after else a) m=a
  rw [cg.2 (h e (by simp))]
  exact fU n m a fun f hf=>h f (by simp [hf])
theorem sG {l:List En} {k:Nat} {n:ByteArray} (h:n ∉ br (l.drop k)):aw l n=aw (l.take k) n:=by
 conv=>lhs;rw [←List.take_append_drop k l]
 unfold aw
 rw [mL,fU n (l.drop k) _ fun e he e2=>h (dl.2 ⟨e,he,e2⟩)]
structure Rest (w w1:Wk) (i:Nat):Prop where
 ci:CI w1.c
 hi:i<w1.c.procs.length
 kp:Kp w w1
 led:(w1.pc i).led=(w.pc i).led
 proc:(w1.pc i).proc=(w.pc i).proc
 run:(w1.pc i).waiting=false
 kg:KG w.c.procs w1.c.procs
theorem Hj {w:Wk} {i:Nat} (h:CI w.c) (hi:i<w.c.procs.length):Rest w (bif (w.pc i).waiting then ay w i else w) i:=by
 cases hw:(w.pc i).waiting with
 | false=>exact ⟨h,hi,⟨KW.refl _,rfl,rfl,rfl⟩,rfl,rfl,hw,KG.refl _⟩
 | true =>
  obtain ⟨k1,_,k3,k4,_⟩:=gt h hi hw
  have hlen:i<(ay w i).c.procs.length:=by rw [k3.len];exact hi
  have hp:(ay w i).pc i = { w.pc i with waiting:=false,req:=Rq.zero,since:=0 }:=by rw [cd hlen];simp [k4]
  exact ⟨k1,hlen,k3,by rw [cond_true,hp],by rw [cond_true,hp],by rw [cond_true,hp],by rw [cond_true,k4];exact KG.set hi (GrP.led (by rw [cd hi]) (by rw [cd hi]))⟩
def pB (w:Wk) (i:Nat):Wk:=bif (w.pc i).waiting then ay w i else w
def xX (w:Wk) (i:Nat) (n:Int):Wk:=(pB w i).setP i { (pB w i).pc i with led:=(b9 (w.pc i).led n).1 }
def pC (w:Wk) (i:Nat) (n:Int):Wk:=be (cj (w.pc i).proc (b9 (w.pc i).led n).2.1 (xX w i n)) i
theorem om {w:Wk} {i:Nat} {n:Int} (h:CI w.c) (hi:i<w.c.procs.length) (hu:(b9 (w.pc i).led n).2.2=0) :
  LwT (w.pc i).proc (b9 (w.pc i).led n).2.1 (xX w i n)∧CI (pC w i n).c∧Kp w (pC w i n)∧KO (w.pc i).proc w.c.procs (pC w i n).c.procs∧∃y∈(pC w i n).c.procs,y.proc=(w.pc i).proc∧y.waiting=false∧y.led=bp (w.pc i).led n:=by
 obtain ⟨hld,hld2,hue,htk⟩:=GT hu
 have hr:Rest w (pB w i) i:=Hj h hi
 unfold pC xX
 generalize pB w i=w1 at *
 have hpc:=cd hr.hi
 have hinv:=hr.ci.inv _ (List.getElem_mem hr.hi)
 rw [←hpc] at hinv
 obtain ⟨hrq,hsn,hrun⟩:=hinv.run hr.run
 rw [hue]
 dsimp only
 have hst:=hinv.stat
 have hlt:∀m,iH { w1.pc i with led:=bp (w.pc i).led n } m=aw ((w1.pc i).led.entries.take (bp (w.pc i).led n).entries.length) m:=by
  intro m
  show aw (bp (w.pc i).led n).entries m=_
  rw [hr.led]
  exact congrArg (aw · m) htk
 have hst2:PStat w1.c.queues { w1.pc i with led:=bp (w.pc i).led n }:=by
  refine ⟨hst.vp,hst.cost,hld2,hst.gen,fun m hm=>?_⟩
  rw [hlt] at hm ⊢
  rcases ui hst.led.ents m (bp (w.pc i).led n).entries.length with h1|h1
  ·exact absurd h1 hm
  ·have hne:iH (w1.pc i) m≠⟨0,0⟩:=by
    intro e0
    have e0':aw (w1.pc i).led.entries m=⟨0,0⟩:=e0
    rw [e0'] at h1
    rcases h1 with h1|⟨_,h2,_⟩
    ·exact hm h1
    ·exact absurd h2 (by decide)
   obtain ⟨k1,k2⟩:=hst.hf m hne
   refine ⟨k1,?_⟩
   have hc:=sF k2 (.inr h1)
   unfold bq cQ at hc
   simp only [Bool.and_eq_true,Bool.or_eq_true] at hc
   rcases hc.1.2.2 with h3|h3
   ·exact absurd (of_decide_eq_true h3) hm
   ·exact h3
 have hw2:(w1.setP i { w1.pc i with led:=bp (w.pc i).led n }).c.queues=w1.c.queues:=rfl
 obtain ⟨hws,hfy,hlw⟩:=uz ((br ((w.pc i).led.entries.drop (bp (w.pc i).led n).entries.length)).map fun m=>(⟨m,aw (bp (w.pc i).led n).entries m⟩:Tm)) (w1.setP i { w1.pc i with led:=bp (w.pc i).led n }) (w1.pc i) { w1.pc i with led:=bp (w.pc i).led n } hr.ci.tv hst rfl
  (by
   have h1:=jA (fR ((w.pc i).led.entries.drop (bp (w.pc i).led n).entries.length))
   unfold Hg
   rw [List.pairwise_map]
   exact h1.imp fun {a b} (hab:a≠b)=>hab)
  (fun a ha=>by
   obtain ⟨m,hm,rfl⟩:=List.mem_map.1 ha
   refine ⟨rfl,?_,?_⟩
   ·obtain ⟨e,he2,hen⟩:=dl.1 hm
    have:=A6 hld.ents e (List.mem_of_mem_drop he2)
    rw [hen,←hr.led] at this
    exact this
   ·have h1:=ui hst.led.ents m (bp (w.pc i).led n).entries.length
    rw [←hlt m] at h1
    exact h1)
  (fun m hm=>by
   have hm':aV w1.c.queues m=true:=hm
   refine ⟨fun a _=>hrun m hm',fun hno=>(hrun m hm').led rfl ?_⟩
   rw [hlt]
   have h1:m ∉ br ((w1.pc i).led.entries.drop (bp (w.pc i).led n).entries.length):=by
    rw [hr.led]
    intro hmem
    exact jE.1 hno ⟨m,aw (bp (w.pc i).led n).entries m⟩ (List.mem_map.2 ⟨m,hmem,rfl⟩) rfl
   exact (sG h1).symm)
 rw [←hr.proc]
 refine ⟨hlw,?_⟩
 clear hlw
 generalize cj (w1.pc i).proc ((br ((w.pc i).led.entries.drop (bp (w.pc i).led n).entries.length)).map fun m=>(⟨m,aw (bp (w.pc i).led n).entries m⟩:Tm)) (w1.setP i { w1.pc i with led:=bp (w.pc i).led n })=g at *
 have hps:g.c.procs=w1.c.procs.set i { w1.pc i with led:=bp (w.pc i).led n }:=hws.procs
 have hpv:PInv g.c.queues g.c.now { w1.pc i with led:=bp (w.pc i).led n } :=
  ⟨hst2.tp hws.tp,fun _=>⟨hrq,hsn,fun m hm=>hfy m (by
   rw [hws.tp.hasE] at hm
   exact hm)⟩,fun hf=>by
   have:(w1.pc i).waiting=true:=hf
   rw [hr.run] at this
   cases this⟩
 have hci:=hr.ci.upd (c':=g.c) hr.hi hps hws.now (by rw [hpc]) hws.tp hpv
 have hgi:i<g.c.procs.length:=by rw [hps];simpa using hr.hi
 have hgp:g.pc i = { w1.pc i with led:=bp (w.pc i).led n }:=by rw [cd hgi];simp [hps]
 obtain ⟨n1,n2,_⟩:=lY hci hgi (by rw [hgp];exact hr.run)
 have hk:Kp w1 g:=⟨by rw [hps];exact KW.set hr.run,hws.now,by rw [hps];exact fE hr.hi (by rw [hpc]),hws.tp.nm⟩
 refine ⟨n1,(hr.kp.trans hk).trans n2,?_,?_⟩
 ·refine KO.then (KO.pre hr.kg ?_) (Hi hgi)
  rw [hps]
  exact KO.set hr.hi (by rw [←hpc]) _
 ·refine ⟨{ g.pc i with gen:=bh (g.pc i).gen },List.mem_iff_getElem.2 ⟨i,by show i<(g.c.procs.set i _).length;simpa using hgi,by show (g.c.procs.set i _)[i]'_=_;simp⟩,?_,?_,?_⟩
  ·show (g.pc i).proc=_
   rw [hgp]
  ·show (g.pc i).waiting=false
   rw [hgp];exact hr.run
  ·show (g.pc i).led=_
   rw [hgp]
theorem xY {w:Wk} {i:Nat} {n:Int} (h:CI w.c) (hi:i<w.c.procs.length) (he:(cZ w i n).2=0) :
  CI (cZ w i n).1.c∧(∀x∈(cZ w i n).1.c.procs,dY (cZ w i n).1.c.queues x=false)∧Kp w (cZ w i n).1∧KO (w.pc i).proc w.c.procs (cZ w i n).1.c.procs∧∃y∈(cZ w i n).1.c.procs,y.proc=(w.pc i).proc∧y.waiting=false∧y.led=bp (w.pc i).led n:=by
 unfold cZ at he ⊢
 by_cases hu:(b9 (w.pc i).led n).2.2=0
 ·rw [decide_eq_true hu]
  simp only [Bool.not_true,cond_false]
  obtain ⟨_,n1,n2,hko,y,hy,hy1,hy2,hy3⟩:=om h hi hu
  have e:be (cj (w.pc i).proc (b9 (w.pc i).led n).2.1 ((bif (w.pc i).waiting then ay w i else w).setP i { (bif (w.pc i).waiting then ay w i else w).pc i with led:=(b9 (w.pc i).led n).1 })) i=pC w i n:=rfl
  rw [e]
  generalize pC w i n=g at *
  obtain ⟨q1,q2,q3⟩:=jc n1
  have hkn:=lX n1
  exact ⟨q1,q2,n2.trans q3,hko.then hkn.gr,y,hkn.nw _ hy hy2,hy1,hy2,hy3⟩
 ·rw [decide_eq_false hu] at he
  simp only [Bool.not_false,cond_true] at he
  exact absurd he hu
def gC (p:Pr) (q:Qu):Qu:=bif !dT q p then q else (bd q p).1
theorem lf (p:Pr):∀t:List Qu,(aP p t).1=t.map (gC p)
 | []=>rfl
 | q :: t=>by
  rw [List.map_cons,←lf p t]
  have e:aP p (q :: t)=bif !dT q p then (q :: (aP p t).1,(aP p t).2) else
   ((bd q p).1 :: (aP p t).1,(bif aO (aq q.holds p) then [] else [⟨3,p,q.res.name,⟨0,0⟩⟩])++aY (bd q p).1.res.name (bd q p).2.1++(aP p t).2):=rfl
  rw [e]
  unfold gC
  cases dT q p <;> rfl
theorem jG {p:Pr} {q:Qu} (h:ar q=true):Out q (gC p q) p∧dT (gC p q) p=false:=by
 unfold gC
 cases hh:dT q p with
 | false=>exact ⟨Out.same p h,hh⟩
 | true =>
  obtain ⟨h1,h2,h3⟩:=xA (vN h hh)
  refine ⟨h1,?_⟩
  show dT (bd q p).1 p=false
  unfold dT
  rw [h2,h3]
  rfl
theorem sH {f:Qu→Qu} (hf:∀q,ar q=true→ar (f q)=true∧(f q).res=q.res):∀{l:List Qu} {o:Option ByteArray},nv o l=true→nv o (l.map f)=true
 | [],_,h=>h
 | q :: l,o,h=>by
  rw [dw] at h
  simp only [Bool.and_eq_true] at h
  obtain ⟨h1,h2⟩:=hf q h.1.1
  rw [List.map_cons,dw,h2]
  simp only [Bool.and_eq_true]
  exact ⟨⟨h1,h.1.2⟩,sH hf h.2⟩
theorem pD {t:List Qu} (hv:ez t=true) (p:Pr):TP t (bN t p).1 p∧p ∉ az (bN t p).1:=by
 have e:(bN t p).1=t.map (gC p):=by
  unfold bN
  rw [hv]
  exact lf p t
 rw [e]
 obtain ⟨h1,h2,h3⟩:=cm hv
 have hsd:∀q∈t,ar q=true:=fun q hq=>dJ hv hq
 have hnm:gj (t.map (gC p))=gj t:=by
  unfold gj
  rw [List.map_map]
  exact List.map_congr_left fun q hq=>by
   show (gC p q).res.name=_
   rw [(jG (hsd q hq)).1.res]
 have hnp:p ∉ az (t.map (gC p)):=by
  intro hm
  unfold az at hm
  rw [bw,gi] at hm
  obtain ⟨q,hq,hpq⟩:=hm
  obtain ⟨q0,hq0,rfl⟩:=List.mem_map.1 hq
  have k:=jG (p:=p) (hsd q0 hq0)
  have:=(dX (aG k.1.ok) p).1 hpq
  rw [k.2] at this
  cases this
 have hsub:∀r∈az (t.map (gC p)),r=p∨r∈az t:=by
  intro r hr
  by_cases hrp:r=p
  ·exact .inl hrp
  ·right
   unfold az at hr ⊢
   rw [bw,gi] at hr ⊢
   obtain ⟨q,hq,hrq⟩:=hr
   obtain ⟨q0,hq0,rfl⟩:=List.mem_map.1 hq
   have k:=jG (p:=p) (hsd q0 hq0)
   exact ⟨q0,hq0,(dX (aG (hsd q0 hq0)) r).2 ((k.1.eff r hrp).has ((dX (aG k.1.ok) r).1 hrq))⟩
 refine ⟨⟨?_,hnm,fun n hn=>?_,hsub⟩,hnp⟩
 ·unfold ez dO
  simp only [Bool.and_eq_true,decide_eq_true_eq]
  refine ⟨⟨by simpa using h1,sH (fun q hq=>⟨(jG hq).1.ok,(jG hq).1.res⟩) h2⟩,?_⟩
  have:=fx (m:=az t) (ec (t.map (gC p))) fun r hr=>by
   rcases hsub r hr with e|e
   ·exact absurd (e▸hr) hnp
   ·exact e
  omega
 ·obtain ⟨i,hi,e1,e2,e3⟩:=pt hn
  have e4:bf (t.map (gC p)) n=gC p (bf t n):=by
   rw [e3]
   unfold bf
   rw [(gQ hnm n).2,e1]
   simp [hi]
  rw [e4]
  exact (jG (dJ hv (dF hn).1)).1
def Iu (w:Wk) (i:Nat):Wk:=Wk.note ⟨{ w.c with queues:=(bN w.c.queues (w.pc i).proc).1,procs:=w.c.procs.eraseIdx i },w.ev++(bN w.c.queues (w.pc i).proc).2⟩ 5 (w.pc i).proc
theorem xZ {w:Wk} {i:Nat} (h:CI w.c) (hi:i<w.c.procs.length):CI (Iu w i).c:=by
 obtain ⟨htp,hnp⟩:=pD h.tv (w.pc i).proc
 have hpc:=cd hi
 have hmem:∀{x:Pc},x∈w.c.procs.eraseIdx i→x∈w.c.procs:=fun hx=>List.mem_of_mem_eraseIdx hx
 have hne:∀x∈w.c.procs.eraseIdx i,x.proc≠(w.pc i).proc:=by
  intro x hx
  obtain ⟨j,hj,hji,e⟩:=List.mem_eraseIdx_iff_getElem.1 hx
  rw [hpc,←e]
  exact xV h hj hi hji
 show CI ({ w.c with queues:=(bN w.c.queues (w.pc i).proc).1,procs:=w.c.procs.eraseIdx i }:Cs)
 refine ⟨h.now,htp.v,?_,?_,fun r hr=>?_,fun x hx=>?_⟩
 ·have:=(List.eraseIdx_sublist w.c.procs i).length_le
  have:=h.len
  show (w.c.procs.eraseIdx i).length≤8
  omega
 ·exact h.asc.sublist ((List.eraseIdx_sublist _ _).map _)
 ·have hrp:r≠(w.pc i).proc:=fun e=>hnp (e▸hr)
  rcases htp.sub r hr with e|e
  ·exact absurd e hrp
  ·obtain ⟨x,hx,hxr⟩:=List.mem_map.1 (h.cov r e)
   obtain ⟨j,hj,e2⟩:=List.mem_iff_getElem.1 hx
   refine List.mem_map.2 ⟨x,List.mem_eraseIdx_iff_getElem.2 ⟨j,hj,fun e3=>?_,e2⟩,hxr⟩
   subst e3
   apply hrp
   rw [hpc,e2,hxr]
 ·exact (h.inv x (hmem hx)).tp htp (hne x hx)
theorem Hk {w:Wk} {i:Nat} (h:CI w.c) (hi:i<w.c.procs.length):CI (iE w i).c∧(∀x∈(iE w i).c.procs,dY (iE w i).c.queues x=false)∧KW w.c.procs (iE w i).c.procs∧(iE w i).c.now=w.c.now∧(iE w i).c.procs.map (·.proc)=(w.c.procs.eraseIdx i).map (·.proc)∧KO (w.pc i).proc w.c.procs (iE w i).c.procs∧gj (iE w i).c.queues=gj w.c.queues:=by
 have htp:=(pD h.tv (w.pc i).proc).1
 have hpc:=cd hi
 have hmem:∀{x:Pc},x∈w.c.procs.eraseIdx i→x∈w.c.procs:=fun hx=>List.mem_of_mem_eraseIdx hx
 have hci:CI (Iu w i).c:=xZ h hi
 have e:iE w i=bX (Wk.note ⟨{ w.c with queues:=(bN w.c.queues (w.pc i).proc).1,procs:=w.c.procs.eraseIdx i },w.ev++(bN w.c.queues (w.pc i).proc).2⟩ 5 (w.pc i).proc):=rfl
 rw [e]
 obtain ⟨k1,k2,k3⟩:=jc (w:=Wk.note ⟨{ w.c with queues:=(bN w.c.queues (w.pc i).proc).1,procs:=w.c.procs.eraseIdx i },w.ev++(bN w.c.queues (w.pc i).proc).2⟩ 5 (w.pc i).proc) hci
 refine ⟨k1,k2,fun x hx hw=>hmem (k3.kw x hx hw),k3.now,k3.pr,KO.then (fun x hx hxp=>?_) (lX (w:=Wk.note ⟨{ w.c with queues:=(bN w.c.queues (w.pc i).proc).1,procs:=w.c.procs.eraseIdx i },w.ev++(bN w.c.queues (w.pc i).proc).2⟩ 5 (w.pc i).proc) hci).gr,k3.nm.trans htp.nm⟩
 obtain ⟨j,hj,e2⟩:=List.mem_iff_getElem.1 hx
 exact ⟨x,List.mem_eraseIdx_iff_getElem.2 ⟨j,hj,fun e3=>by subst e3;rw [hpc,e2] at hxp;exact hxp rfl,e2⟩,GrP.refl x⟩
theorem ED {α:Type} {R:α→α→Prop} (irr:∀a,¬R a a) (asy:∀a b,R a b→¬R b a):∀{l l':List α},l.Pairwise R→l'.Pairwise R→(∀x,x∈l↔x∈l')→l=l'
 | [],[],_,_,_=>rfl
 | [],b :: m,_,_,h=>absurd ((h b).2 (by simp)) (by simp)
 | a :: l,[],_,_,h=>absurd ((h a).1 (by simp)) (by simp)
 | a :: l,b :: m,h1,h2,h=>by
  obtain ⟨k1,k2⟩:=List.pairwise_cons.1 h1
  obtain ⟨k3,k4⟩:=List.pairwise_cons.1 h2
  have hab:a=b:=by
   rcases List.mem_cons.1 ((h a).1 (by simp)) with e|e
   ·exact e
   ·rcases List.mem_cons.1 ((h b).2 (by simp)) with e2|e2
    ·exact e2.symm
    ·exact absurd (k1 b e2) (asy b a (k3 a e))
  subst hab
  congr 1
  refine ED irr asy k2 k4 fun x=>⟨fun hx=>?_,fun hx=>?_⟩
  ·rcases List.mem_cons.1 ((h x).1 (by simp [hx])) with e|e
   ·subst e;exact absurd (k1 x hx) (irr x)
   ·exact e
  ·rcases List.mem_cons.1 ((h x).2 (by simp [hx])) with e|e
   ·subst e;exact absurd (k3 x hx) (irr x)
   ·exact e
def J9 (a b:Tm):Prop:=fy a.name b.name=true
theorem Hl (a:Tm):¬J9 a a:=fun h=>by unfold J9 at h;rw [dj] at h;cases h
theorem Hm (a b:Tm) (h:J9 a b):¬J9 b a:=fun k=>by
 have:=d9 h k
 rw [dj] at this
 cases this
theorem jd {g:Lg} {a:Tm}:a∈ib g↔aw g.entries a.name=a.am∧a.am≠⟨0,0⟩:=by
 unfold ib
 rw [List.mem_filter,List.mem_map]
 constructor
 ·rintro ⟨⟨m,_,rfl⟩,h⟩
  rw [Bool.not_eq_true',bz] at h
  exact ⟨rfl,h⟩
 ·rintro ⟨h1,h2⟩
  refine ⟨⟨a.name,?_,by rw [h1]⟩,by rw [Bool.not_eq_true',bz];exact h2⟩
  refine Classical.byContradiction fun hn=>h2 ?_
  rw [←h1]
  exact fU a.name g.entries ⟨0,0⟩ fun e he e2=>hn (dl.2 ⟨e,he,e2⟩)
theorem Cy (g:Lg):(ib g).Pairwise J9:=by
 unfold ib
 refine List.Pairwise.sublist List.filter_sublist ?_
 rw [List.pairwise_map]
 exact fR g.entries
theorem pE {t:List Qu} {p:Pr} {a:Tm}:a∈go t p↔(∃q∈t,q.res.name=a.name∧aq q.holds p=a.am)∧a.am≠⟨0,0⟩:=by
 unfold go
 rw [List.mem_filter,List.mem_map,Bool.not_eq_true',bz]
 constructor
 ·rintro ⟨⟨q,hq,rfl⟩,h⟩
  exact ⟨⟨q,hq,rfl,rfl⟩,h⟩
 ·rintro ⟨⟨q,hq,h1,h2⟩,h⟩
  exact ⟨⟨q,hq,by rw [h1,h2]⟩,h⟩
theorem Cz {t:List Qu} (hv:ez t=true) (p:Pr):(go t p).Pairwise J9:=by
 unfold go
 refine List.Pairwise.sublist List.filter_sublist ?_
 rw [List.pairwise_map]
 have:=(nS (cm hv).2.1).1
 unfold gj at this
 rw [List.pairwise_map] at this
 exact this
theorem lg {p:Pr}:∀{t:List Qu},cy p t=[]↔∀q∈t,ap q p=none
 | []=>by simp [cy]
 | q :: t=>by
  unfold cy
  cases hw:ap q p with
  | some a =>
   constructor
   ·intro h;cases h
   ·intro h;have:=h q (by simp);rw [hw] at this;cases this
  | none =>
   dsimp only
   rw [lg]
   constructor
   ·intro h x hx
    rcases List.mem_cons.1 hx with rfl|hx
    ·exact hw
    ·exact h x hx
   ·intro h x hx;exact h x (by simp [hx])
theorem A7 {t:List Qu} {x:Pc} (hv:ez t=true) (hf:∀n,iH x n≠⟨0,0⟩→aV t n=true):(ib x.led=go t x.proc∧cy x.proc t=[])↔∀n,aV t n=true→FitR t n x:=by
 constructor
 ·rintro ⟨h1,h2⟩ n hn
  obtain ⟨hm,hnm⟩:=dF hn
  refine ⟨?_,lg.1 h2 _ hm⟩
  by_cases h0:aq (bf t n).holds x.proc=⟨0,0⟩
  ·rw [h0]
   refine Classical.byContradiction fun hne=>?_
   have h3:(⟨n,iH x n⟩:Tm)∈ib x.led:=jd.2 ⟨rfl,fun e=>hne e.symm⟩
   rw [h1,pE] at h3
   obtain ⟨⟨q,hq,e1,e2⟩,_⟩:=h3
   have h4:=(oe hv hq).2
   rw [show q.res.name=n from e1] at h4
   rw [h4,e2] at h0
   exact hne h0.symm
  ·have h3:(⟨n,aq (bf t n).holds x.proc⟩:Tm)∈go t x.proc:=pE.2 ⟨⟨_,hm,hnm,rfl⟩,h0⟩
   rw [←h1,jd] at h3
   exact h3.1.symm
 ·intro h
  refine ⟨ED Hl Hm (Cy x.led) (Cz hv x.proc) fun a=>?_,lg.2 fun q hq=>?_⟩
  ·rw [jd,pE]
   constructor
   ·rintro ⟨h1,h2⟩
    have hn:aV t a.name=true:=hf a.name (by show aw x.led.entries a.name≠_;rw [h1];exact h2)
    obtain ⟨hm,hnm⟩:=dF hn
    exact ⟨⟨_,hm,hnm,by rw [(h a.name hn).h];exact h1⟩,h2⟩
   ·rintro ⟨⟨q,hq,e1,e2⟩,h2⟩
    obtain ⟨hn,hqa⟩:=oe hv hq
    rw [e1] at hn hqa
    have:=(h a.name hn).h
    rw [hqa,e2] at this
    exact ⟨this.symm,h2⟩
  ·obtain ⟨hn,hqa⟩:=oe hv hq
   have:=(h _ hn).w
   rw [hqa] at this
   exact this
theorem oo {α:Type} {o:Option α}:o.isSome=false↔o=none:=by cases o <;> simp
theorem qt {t:List Qu} {q:Qu} {x:Pc} (hq:bf t q.res.name=q):(decide (aq q.holds x.proc=aw x.led.entries q.res.name) && !(ap q x.proc).isSome)=true↔FitR t q.res.name x:=by
 rw [Bool.and_eq_true,decide_eq_true_eq,Bool.not_eq_true',oo]
 constructor
 ·rintro ⟨h1,h2⟩;exact ⟨by rw [hq];exact h1,by rw [hq];exact h2⟩
 ·rintro ⟨h1,h2⟩;rw [hq] at h1 h2;exact ⟨h1,h2⟩
theorem qu {q:Qu} {x:Pc}:∀{l:List Tm},(∀a∈l,a.name≠q.res.name)→dE q x l=(decide (aq q.holds x.proc=aw x.led.entries q.res.name) && !(ap q x.proc).isSome)
 | [],_=>rfl
 | a :: l,h=>by
  unfold dE
  rw [cg.2 (h a (by simp)),Bool.not_false,Bool.true_or,cond_true]
  exact qu fun b hb=>h b (by simp [hb])
theorem mU {t:List Qu} {q:Qu} {x:Pc} (hq:bf t q.res.name=q):∀{l:List Tm},Hg l→(dE q x l=true↔FitW t q.res.name x l)
 | [],_=>by
  unfold dE FitW
  exact qt hq
 | a :: l,hn=>by
  obtain ⟨h1,h2⟩:=List.pairwise_cons.1 hn
  have ih:=mU (x:=x) hq h2
  unfold FitW at ih ⊢
  rw [dG]
  unfold dE
  cases hnm:aT a.name q.res.name with
  | false =>
   rw [Bool.not_false,Bool.true_or,cond_true,cond_false]
   exact ih
  | true =>
   have hname:=aW.1 hnm
   have hno:∀b∈l,b.name≠q.res.name:=fun b hb e=>h1 b hb (hname.trans e.symm)
   rw [Bool.not_true,Bool.false_or,cond_true]
   dsimp only
   unfold FitA jn
   rw [hq]
   cases hc:bq q.res (aw x.led.entries q.res.name) a.am with
   | true =>
    rw [cond_true,qu hno,qt hq]
    constructor
    ·intro h;exact .inl ⟨rfl,h⟩
    ·rintro (⟨_,h⟩|⟨h,_⟩)
     ·exact h
     ·cases h
   | false =>
    rw [cond_false]
    cases hw:ap q x.proc with
    | none =>
     simp only [Option.isSome_none,Bool.not_false,cond_true,decide_eq_true_eq]
     constructor
     ·intro h;exact .inr ⟨trivial,.inl ⟨h,trivial⟩⟩
     ·rintro (⟨h,_⟩|⟨_,⟨h,_⟩|⟨_,h,_⟩⟩)
      ·cases h
      ·exact h
      ·cases h
    | some b =>
     simp only [Option.isSome_some,Bool.not_true,cond_false]
     cases hp:q.waits.any (fun y=>decide (y.proc=x.proc) && !decide (y.prio=x.req.prio)) with
     | true =>
      rw [cond_true]
      constructor
      ·intro h;cases h
      ·rintro (⟨h,_⟩|⟨_,⟨_,h⟩|⟨_,_,h⟩⟩)
       ·cases h
       ·cases h
       ·rw [List.any_eq_true] at hp
        obtain ⟨y,hy,h3⟩:=hp
        simp only [Bool.and_eq_true,decide_eq_true_eq,Bool.not_eq_true',decide_eq_false_iff_not] at h3
        exact absurd (h y hy h3.1) h3.2
     | false =>
      rw [cond_false,Bool.and_eq_true,decide_eq_true_eq,decide_eq_true_eq]
      rw [List.any_eq_false] at hp
      constructor
      ·rintro ⟨h3,h4⟩
       refine .inr ⟨trivial,.inr ⟨h3,h4,fun y hy hyp=>?_⟩⟩
       have:=hp y hy
       simp only [Bool.and_eq_true,decide_eq_true_eq,Bool.not_eq_true',decide_eq_false_iff_not,not_and,Decidable.not_not] at this
       exact this hyp
      ·rintro (⟨h,_⟩|⟨_,⟨_,h⟩|⟨h3,h4,_⟩⟩)
       ·cases h
       ·cases h
       ·exact ⟨h3,h4⟩
def uA (c:Cs) (x:Pc):Prop:=x.waiting=true→(x.req.limit=0∨c.now<x.since+x.req.limit)∧dY c.queues x=false
theorem pF {c:Cs} {x:Pc} (hv:ez c.queues=true):qk c x=true↔PInv c.queues c.now x∧uA c x:=by
 have hhf:(ib x.led).all (fun a=>aV c.queues a.name && aH (bf c.queues a.name).res a.am)=true↔∀n,iH x n≠⟨0,0⟩→aV c.queues n=true∧aH (bf c.queues n).res (iH x n)=true:=by
  rw [List.all_eq_true]
  constructor
  ·intro h n hn
   have:=h ⟨n,iH x n⟩ (jd.2 ⟨rfl,hn⟩)
   rw [Bool.and_eq_true] at this
   exact this
  ·intro h a ha
   obtain ⟨h1,h2⟩:=jd.1 ha
   have:=h a.name (by show aw x.led.entries a.name≠_;rw [h1];exact h2)
   rw [show iH x a.name=a.am from h1] at this
   rw [Bool.and_eq_true]
   exact this
 unfold qk
 cases hw:x.waiting with
 | false =>
  simp only [Bool.not_false,cond_true,Bool.and_eq_true,decide_eq_true_eq,hhf,f5,GY]
  constructor
  ·rintro ⟨⟨⟨⟨⟨⟨⟨h1,h2⟩,h3⟩,h4⟩,h5⟩,h6⟩,h7⟩,⟨⟨h8,h9⟩,h10⟩,h11⟩
   refine ⟨⟨⟨h1,⟨h2,h3⟩,h4,⟨h5,h6⟩,h7⟩,fun _=>⟨h8,h9,(A7 hv fun n hn=>(h7 n hn).1).1 ⟨h10,h11⟩⟩,fun h=>?_⟩,fun h=>?_⟩
   ·rw [hw] at h;cases h
   ·rw [hw] at h;cases h
  ·rintro ⟨⟨⟨h1,h2,h4,h5,h7⟩,h8,_⟩,_⟩
   obtain ⟨k1,k2,k3⟩:=h8 hw
   obtain ⟨k4,k5⟩:=(A7 hv fun n hn=>(h7 n hn).1).2 k3
   exact ⟨⟨⟨⟨⟨⟨⟨h1,h2.1⟩,h2.2⟩,h4⟩,h5.1⟩,h5.2⟩,h7⟩,⟨⟨k1,k2⟩,k4⟩,k5⟩
 | true =>
  have hfw:c.queues.all (fun q=>dE q x (cP x.req.expr))=true↔∀n,aV c.queues n=true→FitW c.queues n x (cP x.req.expr):=by
   rw [List.all_eq_true]
   constructor
   ·intro h n hn
    obtain ⟨hm,hnm⟩:=dF hn
    have h1:=(mU (t:=c.queues) (q:=bf c.queues n) (x:=x) (by rw [hnm]) (pA x.req.expr)).1 (h _ hm)
    rw [hnm] at h1
    exact h1
   ·intro h q hq
    obtain ⟨hn,hqa⟩:=oe hv hq
    exact (mU hqa (pA x.req.expr)).2 (h _ hn)
  have hsat:dY c.queues x=ew x.req.expr (bC c.queues x.proc x.req.expr):=by unfold dY;rw [hw];rfl
  simp only [Bool.not_true,cond_false,Bool.and_eq_true,Bool.or_eq_true,decide_eq_true_eq,hhf,f5,hfw,Bool.not_eq_true',←hsat]
  constructor
  ·rintro ⟨⟨⟨⟨⟨⟨⟨h1,h2⟩,h3⟩,h4⟩,h5⟩,h6⟩,h7⟩,⟨⟨⟨⟨⟨h8,h9⟩,h10⟩,h11⟩,h12⟩,h13⟩,h14⟩
   refine ⟨⟨⟨h1,⟨h2,h3⟩,h4,⟨h5,h6⟩,h7⟩,fun h=>?_,fun _=>⟨⟨h8,h9,h10,h11⟩,h14⟩⟩,fun _=>⟨h12,h13⟩⟩
   rw [hw] at h;cases h
  ·rintro ⟨⟨⟨h1,h2,h4,h5,h7⟩,_,h8⟩,h9⟩
   obtain ⟨k1,k2⟩:=h8 hw
   obtain ⟨k3,k4⟩:=h9 hw
   exact ⟨⟨⟨⟨⟨⟨⟨h1,h2.1⟩,h2.2⟩,h4⟩,h5.1⟩,h5.2⟩,h7⟩,⟨⟨⟨⟨⟨k1.rq,k1.rs⟩,k1.sn.1⟩,k1.sn.2⟩,k3⟩,k4⟩,k2⟩
theorem x4 (c:Cs):∀(l:List Pc) (o:Option Pr),xE c o l=true↔(∀x∈l,qk c x=true)∧(l.map (·.proc)).Pairwise fY∧∀p,o=some p→∀x∈l,fY p x.proc
 | [],o=>by simp [xE]
 | x :: l,o=>by
  unfold xE
  simp only [Bool.and_eq_true,x4 c l,AF]
  constructor
  ·rintro ⟨⟨h1,h2⟩,h3,h4,h5⟩
   refine ⟨?_,?_,?_⟩
   ·intro y hy
    rcases List.mem_cons.1 hy with rfl|hy
    ·exact h1
    ·exact h3 y hy
   ·rw [List.map_cons]
    refine List.pairwise_cons.2 ⟨?_,h4⟩
    intro p hp
    obtain ⟨y,hy,rfl⟩:=List.mem_map.1 hp
    exact h5 _ rfl y hy
   ·intro p hp y hy
    rcases List.mem_cons.1 hy with rfl|hy
    ·exact h2 p hp
    ·exact cz (h2 p hp) (h5 _ rfl y hy)
  ·rintro ⟨h1,h2,h3⟩
   rw [List.map_cons] at h2
   obtain ⟨h4,h5⟩:=List.pairwise_cons.1 h2
   refine ⟨⟨h1 x (by simp),fun p hp=>h3 p hp x (by simp)⟩,fun y hy=>h1 y (by simp [hy]),h5,?_⟩
   intro p hp y hy
   injection hp with hp
   subst hp
   exact h4 _ (List.mem_map.2 ⟨y,hy,rfl⟩)
theorem sI {p:Pr}:∀{l:List Pc} {k:Nat},fo p k l<0↔∀x∈l,x.proc≠p
 | [],k=>by simp [fo]
 | x :: l,k=>by
  unfold fo
  by_cases hx:x.proc=p
  ·rw [decide_eq_true hx,cond_true]
   constructor
   ·intro h;omega
   ·intro h;exact absurd hx (h x (by simp))
  ·rw [decide_eq_false hx,cond_false,sI]
   constructor
   ·intro h y hy
    rcases List.mem_cons.1 hy with rfl|hy
    ·exact hx
    ·exact h y hy
   ·intro h y hy;exact h y (by simp [hy])
theorem lZ {p:Pr}:∀{l:List Pc} {k:Nat},0≤fo p k l→∃i,∃h:i<l.length,fo p k l=((k+i:Nat):Int)∧l[i].proc=p
 | [],k,h=>by simp [fo] at h
 | x :: l,k,h=>by
  have e:fo p k (x :: l)=bif decide (x.proc=p) then (k:Int) else fo p (k+1) l:=rfl
  rw [e] at h ⊢
  by_cases hx:x.proc=p
  ·exact ⟨0,by simp,by rw [decide_eq_true hx];simp,hx⟩
  ·rw [decide_eq_false hx,cond_false] at h ⊢
   obtain ⟨i,hi,h1,h2⟩:=lZ h
   exact ⟨i+1,by simpa using hi,by rw [h1];omega,by simpa using h2⟩
theorem EF {p:Pr} {l:List Pc} {k:Nat}:0≤fo p k l↔p∈l.map (·.proc):=by
 constructor
 ·intro h
  obtain ⟨i,hi,_,e⟩:=lZ h
  exact List.mem_map.2 ⟨_,List.getElem_mem hi,e⟩
 ·intro h
  obtain ⟨x,hx,e⟩:=List.mem_map.1 h
  refine Classical.byContradiction fun hn=>?_
  exact sI.1 (show fo p k l<0 by omega) x hx e
theorem fh {c:Cs}:fB c=true↔CI c∧∀x∈c.procs,uA c x:=by
 unfold fB
 simp only [Bool.and_eq_true,decide_eq_true_eq,List.all_eq_true,x4,EF]
 constructor
 ·rintro ⟨⟨⟨⟨⟨h1,h2⟩,h3⟩,h4⟩,h5⟩,h6,h7,_⟩
  exact ⟨⟨⟨h1,h2⟩,h3,h4,h7,h5,fun x hx=>((pF h3).1 (h6 x hx)).1⟩,fun x hx=>((pF h3).1 (h6 x hx)).2⟩
 ·rintro ⟨⟨h1,h3,h4,h7,h5,h6⟩,h8⟩
  exact ⟨⟨⟨⟨⟨h1.1,h1.2⟩,h3⟩,h4⟩,h5⟩,fun x hx=>(pF h3).2 ⟨h6 x hx,h8 x hx⟩,h7,fun p hp=>by cases hp⟩
theorem l9 (x:Pc):∀l:List Pc,(nY x l).Perm (x :: l)
 | []=>List.Perm.refl _
 | y :: l=>by
  show (bif decide (0<cU y.proc x.proc) then x :: y :: l else y :: nY x l).Perm _
  cases decide (0<cU y.proc x.proc) with
  | true=>exact List.Perm.refl _
  | false=>exact ((l9 x l).cons y).trans (List.Perm.swap x y l)
theorem x5 {x:Pc}:∀{l:List Pc},(l.map (·.proc)).Pairwise fY→(∀y∈l,y.proc≠x.proc)→((nY x l).map (·.proc)).Pairwise fY
 | [],_,_=>by simp [nY]
 | y :: l,h,hn=>by
  rw [List.map_cons] at h
  obtain ⟨h1,h2⟩:=List.pairwise_cons.1 h
  have hyx:=hn y (by simp)
  show ((bif decide (0<cU y.proc x.proc) then x :: y :: l else y :: nY x l).map (·.proc)).Pairwise fY
  by_cases hc:0<cU y.proc x.proc
  ·rw [decide_eq_true hc,cond_true,List.map_cons,List.map_cons]
   have hlt:fY x.proc y.proc:=by
    rcases jo x.proc y.proc with h3|h3|h3
    ·exact h3
    ·exact absurd h3.symm hyx
    ·have:=(gG _ _).2 h3;omega
   refine List.pairwise_cons.2 ⟨?_,List.pairwise_cons.2 ⟨h1,h2⟩⟩
   intro z hz
   rcases List.mem_cons.1 hz with rfl|hz
   ·exact hlt
   ·exact cz hlt (h1 z hz)
  ·rw [decide_eq_false hc,cond_false,List.map_cons]
   have hlt:fY y.proc x.proc:=by
    rcases dU y.proc x.proc with ⟨h5,_⟩|⟨h5,_⟩|⟨_,h6⟩
    ·exact h5
    ·exact absurd h5 hyx
    ·omega
   refine List.pairwise_cons.2 ⟨?_,x5 h2 fun z hz=>hn z (by simp [hz])⟩
   intro z hz
   obtain ⟨u,hu,rfl⟩:=List.mem_map.1 hz
   rcases List.mem_cons.1 ((l9 x l).mem_iff.1 hu) with rfl|hu
   ·exact hlt
   ·exact h1 _ (List.mem_map.2 ⟨u,hu,rfl⟩)
theorem Hn {t:List Qu} (hv:ez t=true) {p:Pr} (hp:p ∉ az t) {n:ByteArray} (hn:aV t n=true):aq (bf t n).holds p=⟨0,0⟩∧ap (bf t n) p=none:=by
 obtain ⟨hm,_⟩:=dF hn
 have h1:dT (bf t n) p=false:=by
  cases hh:dT (bf t n) p with
  | false=>rfl
  | true =>
   refine absurd ?_ hp
   unfold az
   rw [bw,gi]
   exact ⟨_,hm,(dX (aG (dJ hv hm)) p).2 hh⟩
 unfold dT at h1
 rw [Bool.or_eq_false_iff,oo,Bool.not_eq_false'] at h1
 exact ⟨of_decide_eq_true h1.2,h1.1⟩
theorem Hp:Ld Lg.zero:=⟨by simp [Lg.zero],fun k hk=>absurd hk (by simp [Lg.zero]),by simp [Lg.zero,br,dc],fun x hx=>absurd hx (by simp [Lg.zero]),by simp [Lg.zero],by simp [Lg.zero]⟩
theorem Hq {w:Wk} {p:Pr} {cost:Int} (h:CI w.c) (he:(mu w p cost).2=0) :
  CI (mu w p cost).1.c∧(mu w p cost).1.c.queues=w.c.queues∧(mu w p cost).1.c.now=w.c.now∧(mu w p cost).1.c.procs=nY { Gd with proc:=p,cost:=cost } w.c.procs:=by
 unfold mu at he ⊢
 cases hA:fI p && decide (1≤cost) && decide (cost≤1000) with
 | false=>rw [hA] at he;simp at he
 | true =>
  rw [hA] at he
  simp only [Bool.not_true,cond_false] at he ⊢
  simp only [Bool.and_eq_true,decide_eq_true_eq] at hA
  by_cases hI:0≤fo p 0 w.c.procs
  ·rw [decide_eq_true hI] at he;simp at he
  ·rw [decide_eq_false hI] at he ⊢
   simp only [cond_false] at he ⊢
   by_cases hL:w.c.procs.length=8
   ·rw [decide_eq_true hL] at he;simp at he
   ·rw [decide_eq_false hL]
    simp only [cond_false]
    have hno:=(sI (k:=0)).1 (show fo p 0 w.c.procs<0 by omega)
    have hnp:p ∉ az w.c.queues:=fun hm=>by
     obtain ⟨x,hx,e⟩:=List.mem_map.1 (h.cov p hm)
     exact hno x hx e
    have hperm:=l9 { Gd with proc:=p,cost:=cost } w.c.procs
    refine ⟨⟨h.now,h.tv,?_,x5 h.asc fun y hy=>hno y hy,fun r hr=>?_,fun x hx=>?_⟩,by trivial,by trivial,by trivial⟩
    ·have e1:=hperm.length_eq
     rw [List.length_cons] at e1
     have e2:=h.len
     show (nY { Gd with proc:=p,cost:=cost } w.c.procs).length≤8
     rw [e1]
     omega
    ·obtain ⟨x,hx,e⟩:=List.mem_map.1 (h.cov r hr)
     exact List.mem_map.2 ⟨x,hperm.mem_iff.2 (by simp [hx]),e⟩
    ·rcases List.mem_cons.1 (hperm.mem_iff.1 hx) with rfl|hx
     ·refine ⟨⟨hA.1.1,⟨hA.1.2,hA.2⟩,Hp,by simp [Gd],fun n hn=>absurd rfl hn⟩,fun _=>⟨rfl,rfl,fun n hn=>?_⟩,fun hw=>by cases hw⟩
      obtain ⟨k1,k2⟩:=Hn h.tv hnp hn
      exact ⟨k1,k2⟩
     ·exact h.inv x hx
def EG (now:Int) (x:Pc):Prop:=x.waiting=true∧x.req.limit≠0∧x.since+x.req.limit≤now
theorem mV (now:Int):∀(l:List Pc) (k:Nat) (b:Int×Int),
  ((i8 now k l b).1<0→b.1<0∧∀x∈l,¬EG now x)∧(0≤(i8 now k l b).1→i8 now k l b=b∨∃j,∃h:j<l.length,(i8 now k l b).1=((k+j:Nat):Int)∧EG now l[j])
 | [],k,b=>by
  constructor
  ·intro h;exact ⟨h,fun x hx=>absurd hx (by simp)⟩
  ·intro _;exact .inl rfl
 | x :: l,k,b=>by
  have e:i8 now k (x :: l) b=i8 now (k+1) l (bif x.waiting && !decide (x.req.limit=0) && decide (x.since+x.req.limit≤now) && (decide (b.1<0) || decide (x.since+x.req.limit<b.2)) then ((k:Int),x.since+x.req.limit) else b):=rfl
  rw [e]
  cases hc:x.waiting && !decide (x.req.limit=0) && decide (x.since+x.req.limit≤now) && (decide (b.1<0) || decide (x.since+x.req.limit<b.2)) with
  | true =>
   rw [cond_true]
   obtain ⟨h1,h2⟩:=mV now l (k+1) ((k:Int),x.since+x.req.limit)
   simp only [Bool.and_eq_true,decide_eq_true_eq,Bool.not_eq_true',decide_eq_false_iff_not] at hc
   constructor
   ·intro h
    have:=(h1 h).1
    simp only at this
    omega
   ·intro h
    rcases h2 h with h3|⟨j,hj,h3,h4⟩
    ·exact .inr ⟨0,by simp,by rw [h3];simp,⟨hc.1.1.1,hc.1.1.2,hc.1.2⟩⟩
    ·exact .inr ⟨j+1,by simpa using hj,by rw [h3];omega,by simpa using h4⟩
  | false =>
   rw [cond_false]
   obtain ⟨h1,h2⟩:=mV now l (k+1) b
   constructor
   ·intro h
    obtain ⟨h3,h4⟩:=h1 h
    refine ⟨h3,fun y hy=>?_⟩
    rcases List.mem_cons.1 hy with rfl|hy
    ·rintro ⟨k1,k2,k3⟩
     rw [k1,decide_eq_false k2,decide_eq_true k3,decide_eq_true h3] at hc
     cases hc
    ·exact h4 y hy
   ·intro h
    rcases h2 h with h3|⟨j,hj,h3,h4⟩
    ·exact .inl h3
    ·exact .inr ⟨j+1,by simpa using hj,by rw [h3];omega,by simpa using h4⟩
theorem pG (w:Wk):(eY w<0→∀x∈w.c.procs,¬EG w.c.now x)∧(0≤eY w→∃h:(eY w).toNat<w.c.procs.length,EG w.c.now w.c.procs[(eY w).toNat]):=by
 obtain ⟨h1,h2⟩:=mV w.c.now w.c.procs 0 (-1,0)
 constructor
 ·intro h;exact (h1 h).2
 ·intro h
  have h':0≤(i8 w.c.now 0 w.c.procs (-1,0)).1:=h
  rcases h2 h with h3|⟨j,hj,h3,h4⟩
  ·rw [h3] at h';simp at h'
  ·have e:(eY w).toNat=j:=by unfold eY;rw [h3];omega
   exact ⟨by rw [e];exact hj,by simp only [e];exact h4⟩
theorem EH {c:Cs} {x:Pc} (h1:¬EG c.now x) (h2:dY c.queues x=false):uA c x:=fun hw=>by
 refine ⟨?_,h2⟩
 by_cases h0:x.req.limit=0
 ·exact .inl h0
 ·right
  refine Classical.byContradiction fun hn=>h1 ⟨hw,h0,by omega⟩
theorem x6:∀(n:Nat) (w:Wk),CI w.c→(∀x∈w.c.procs,dY w.c.queues x=false)→cR w.c.procs≤n→CI (iF n w).c∧(∀x∈(iF n w).c.procs,uA (iF n w).c x)∧(iF n w).c.now=w.c.now∧KW w.c.procs (iF n w).c.procs∧(iF n w).c.procs.map (·.proc)=w.c.procs.map (·.proc)
 | 0,w,h,hs,hn=>by
  refine ⟨h,fun x hx hw=>?_,rfl,KW.refl _,rfl⟩
  have hx':x∈w.c.procs:=hx
  obtain ⟨i,hi,e⟩:=List.mem_iff_getElem.1 hx'
  have:0<cR w.c.procs:=lV hi (by rw [e];exact hw)
  have hn':cR w.c.procs≤0:=hn
  omega
 | n+1,w,h,hs,hn=>by
  obtain ⟨s1,s2⟩:=pG w
  unfold iF
  by_cases he:eY w<0
  ·rw [decide_eq_true he]
   exact ⟨h,fun x hx=>EH (s1 he x hx) (hs x hx),rfl,KW.refl _,rfl⟩
  ·rw [decide_eq_false he,cond_false]
   obtain ⟨hi,hl1,hl2,hl3⟩:=s2 (by omega)
   generalize (eY w).toNat=i at *
   have hc0:CI (w.note 4 (w.pc i).proc).c:=h
   have hw0:((w.note 4 (w.pc i).proc).pc i).waiting=true:=by rw [cd (w:=w.note 4 (w.pc i).proc) hi];exact hl1
   obtain ⟨k1,k2,k3,k4,_⟩:=gt hc0 hi hw0
   have hi2:i<(ay (w.note 4 (w.pc i).proc) i).c.procs.length:=by rw [k3.len];exact hi
   have hrun:((ay (w.note 4 (w.pc i).proc) i).pc i).waiting=false:=by rw [cd hi2];simp [k4]
   obtain ⟨n1,n2,n3⟩:=lY k1 hi2 hrun
   obtain ⟨q1,q2,q3,q4,q5,q6,_⟩:=lW n1
   have k2':cR (ay (w.note 4 (w.pc i).proc) i).c.procs+1=cR w.c.procs:=k2
   obtain ⟨r1,r2,r3,r4,r5⟩:=x6 n (bX (be (ay (w.note 4 (w.pc i).proc) i) i)) q1 q2 (by omega)
   refine ⟨r1,r2,?_,?_,?_⟩
   ·exact r3.trans (q4.trans (n2.now.trans k3.now))
   ·exact (k3.kw.trans n2.kw).trans (q6.trans r4)
   ·exact r5.trans (q3.trans (n2.pr.trans k3.pr))
theorem CI.later {c:Cs} (h:CI c) {n:Int} (h0:0≤n) (hm:c.now+n≤1073741824):CI { c with now:=c.now+n } :=
 ⟨by have:=h.now;show 0≤c.now+n∧c.now+n≤1073741824;omega,h.tv,h.len,h.asc,h.cov,fun x hx=>by
  have k:=h.inv x hx
  exact ⟨k.stat,k.run,fun hw=>by
   obtain ⟨k1,k2⟩:=k.wat hw
   exact ⟨⟨k1.rq,k1.rs,by have:=k1.sn;show 0≤x.since∧x.since≤c.now+n;omega⟩,k2⟩⟩⟩
theorem pH {c:Cs} {x:Pc} (h:uA c x):dY c.queues x=false:=by
 cases hw:x.waiting with
 | true=>exact (h hw).2
 | false=>unfold dY;rw [hw];rfl
theorem Hr {w:Wk} {n:Int} (h:CI w.c) (hs:∀x∈w.c.procs,dY w.c.queues x=false) (he:(jQ w n).2=0):CI (jQ w n).1.c∧(∀x∈(jQ w n).1.c.procs,uA (jQ w n).1.c x)∧(jQ w n).1.c.now=w.c.now+n∧KW w.c.procs (jQ w n).1.c.procs∧(jQ w n).1.c.procs.map (·.proc)=w.c.procs.map (·.proc):=by
 unfold jQ at he ⊢
 cases hA:decide (0≤n) && decide (n≤1000) with
 | false=>rw [hA] at he;simp at he
 | true =>
  rw [hA] at he
  simp only [Bool.not_true,cond_false] at he ⊢
  simp only [Bool.and_eq_true,decide_eq_true_eq] at hA
  by_cases hm:1073741824-n<w.c.now
  ·rw [decide_eq_true hm] at he;simp at he
  ·rw [decide_eq_false hm]
   simp only [cond_false]
   exact x6 _ ⟨{ w.c with now:=w.c.now+n },w.ev⟩ (h.later hA.1 (by omega)) hs (ol _)
theorem cF {α:Type} {b:Bool} {x y:α} (h:b=false):(bif b then x else y)=y:=by rw [h];rfl
theorem cT {α:Type} {b:Bool} {x y:α} (h:b=true):(bif b then x else y)=x:=by rw [h];rfl
theorem KH {c:Cs} {k:Cm} (h:fB c=true) (he:(DY ⟨c,[]⟩ k).2=0):fB (DY ⟨c,[]⟩ k).1.c=true:=by
 obtain ⟨hci,hun⟩:=fh.1 h
 have fin:∀w:Wk,CI w.c→(∀x∈w.c.procs,dY w.c.queues x=false)→KW c.procs w.c.procs→w.c.now=c.now→fB w.c=true:=by
  intro w h1 h2 h3 h4
  refine fh.2 ⟨h1,fun x hx hw=>⟨?_,h2 x hx⟩⟩
  have h5:=h3 x hx hw
  rw [h4]
  exact (hun x h5 hw).1
 unfold DY at he ⊢
 cases hA:decide (1≤k.kind) && decide (k.kind≤9) with
 | false=>rw [hA] at he;simp at he
 | true =>
  rw [hA] at he
  simp only [Bool.not_true,cond_false] at he ⊢
  by_cases h1:k.kind=1
  ·rw [decide_eq_true h1] at he ⊢
   simp only [cond_true] at he ⊢
   obtain ⟨k1,k2,k3,k4⟩:=Hq hci he
   have hperm:=l9 { Gd with proc:=k.proc,cost:=k.n } c.procs
   refine fh.2 ⟨k1,fun x hx hw=>?_⟩
   rw [k4] at hx
   rcases List.mem_cons.1 (hperm.mem_iff.1 hx) with rfl|hx
   ·cases hw
   ·have:=hun x hx hw
    rw [k2,k3]
    exact this
  ·rw [decide_eq_false h1] at he ⊢
   simp only [cond_false] at he ⊢
   by_cases h9:k.kind=9
   ·rw [decide_eq_true h9] at he ⊢
    simp only [cond_true] at he ⊢
    obtain ⟨k1,k2,_⟩:=Hr hci (fun x hx=>pH (hun x hx)) he
    exact fh.2 ⟨k1,k2⟩
   ·rw [decide_eq_false h9] at he ⊢
    simp only [cond_false] at he ⊢
    by_cases hI:fo k.proc 0 c.procs<0
    ·rw [decide_eq_true hI] at he;simp at he
    ·rw [decide_eq_false hI] at he ⊢
     simp only [cond_false] at he ⊢
     obtain ⟨i,hi,e,_⟩:=lZ (p:=k.proc) (l:=c.procs) (k:=0) (by omega)
     have ei:(fo k.proc 0 c.procs).toNat=i:=by rw [e];omega
     rw [ei] at he ⊢
     by_cases h2:k.kind=2
     ·rw [decide_eq_true h2] at he ⊢
      simp only [cond_true] at he ⊢
      have hrq:qL k.req=true:=by
       cases hq:qL k.req with
       | true=>rfl
       | false =>
        exfalso
        unfold cL at he
        rw [hq] at he
        cases hw:(Wk.pc ⟨c,[]⟩ i).waiting <;> rw [hw] at he <;> simp at he
      obtain ⟨k1,k2,k3,_,k5,_⟩:=zN hci hi he
      refine fh.2 ⟨k1,fun x hx hw=>⟨?_,k2 x hx⟩⟩
      rw [k3]
      rcases k5 x hx hw with h5|h5
      ·exact (hun x h5 hw).1
      ·rw [h5]
       unfold qL at hrq
       simp only [Bool.and_eq_true,decide_eq_true_eq] at hrq
       show k.req.limit=0∨c.now<c.now+k.req.limit
       omega
     ·rw [decide_eq_false h2] at he ⊢
      simp only [cond_false] at he ⊢
      by_cases h3:k.kind=3
      ·rw [decide_eq_true h3] at he ⊢
       simp only [cond_true] at he ⊢
       cases hw:(Wk.pc ⟨c,[]⟩ i).waiting with
       | false=>rw [hw] at he;simp at he
       | true =>
        simp only [Bool.not_true,cond_false]
        obtain ⟨k1,_,k3,k4,_⟩:=gt hci hi hw
        have hi2:i<(ay ⟨c,[]⟩ i).c.procs.length:=by rw [k3.len];exact hi
        obtain ⟨n1,n2,_⟩:=lY k1 hi2 (by rw [cd hi2];simp [k4])
        obtain ⟨q1,q2,q3⟩:=jc n1
        have hk:=(k3.trans n2).trans q3
        exact fin _ q1 q2 hk.kw hk.now
      ·rw [decide_eq_false h3] at he ⊢
       simp only [cond_false] at he ⊢
       by_cases h4:k.kind=4
       ·rw [decide_eq_true h4] at he ⊢
        simp only [cond_true] at he ⊢
        obtain ⟨q1,q2,hk,_⟩:=zO hci hi he
        exact fin _ q1 q2 hk.kw hk.now
       ·rw [decide_eq_false h4] at he ⊢
        simp only [cond_false] at he ⊢
        by_cases h5:k.kind=5
        ·rw [decide_eq_true h5] at he ⊢
         simp only [cond_true] at he ⊢
         rcases Bool.eq_false_or_eq_true (Wk.pc ⟨c,[]⟩ i).waiting with hw|hw
         ·rw [cT hw] at he;simp at he
         ·rw [cF hw] at he ⊢
          by_cases hs:(iD (Wk.pc ⟨c,[]⟩ i).led k.n).2=0
          ·rw [decide_eq_true hs]
           simp only [Bool.not_true,cond_false]
           obtain ⟨hld,hse,hld2⟩:=GS hs
           rw [hse]
           have hpc:=cd (w:=⟨c,[]⟩) hi
           have hinv:=hci.inv _ (List.getElem_mem hi)
           rw [←hpc] at hinv
           obtain ⟨hrq,hsn,hrun⟩:=hinv.run hw
           have hpv:PInv c.queues c.now { Wk.pc ⟨c,[]⟩ i with led:=⟨(Wk.pc ⟨c,[]⟩ i).led.entries,(Wk.pc ⟨c,[]⟩ i).led.saves++[⟨k.n,(Wk.pc ⟨c,[]⟩ i).led.entries.length⟩]⟩ } :=
            ⟨⟨hinv.stat.vp,hinv.stat.cost,hld2,hinv.stat.gen,hinv.stat.hf⟩,fun _=>⟨hrq,hsn,fun n hn=>(hrun n hn).led rfl rfl⟩,fun hf=>by
             have:(Wk.pc ⟨c,[]⟩ i).waiting=true:=hf
             rw [hw] at this
             cases this⟩
           have hci2:=hci.upd (c':=(Wk.setP ⟨c,[]⟩ i { Wk.pc ⟨c,[]⟩ i with led:=⟨(Wk.pc ⟨c,[]⟩ i).led.entries,(Wk.pc ⟨c,[]⟩ i).led.saves++[⟨k.n,(Wk.pc ⟨c,[]⟩ i).led.entries.length⟩]⟩ }).c) hi rfl rfl (by rw [hpc]) (TP.refl hci.tv _) hpv
           have hi2:i<(Wk.setP ⟨c,[]⟩ i { Wk.pc ⟨c,[]⟩ i with led:=⟨(Wk.pc ⟨c,[]⟩ i).led.entries,(Wk.pc ⟨c,[]⟩ i).led.saves++[⟨k.n,(Wk.pc ⟨c,[]⟩ i).led.entries.length⟩]⟩ }).c.procs.length:=by
            show i<(c.procs.set i _).length
            simpa using hi
           obtain ⟨n1,n2,_⟩:=lY hci2 hi2 (by rw [oh hi];exact hw)
           have hkw:KW c.procs (Wk.setP ⟨c,[]⟩ i { Wk.pc ⟨c,[]⟩ i with led:=⟨(Wk.pc ⟨c,[]⟩ i).led.entries,(Wk.pc ⟨c,[]⟩ i).led.saves++[⟨k.n,(Wk.pc ⟨c,[]⟩ i).led.entries.length⟩]⟩ }).c.procs:=KW.set hw
           refine fin _ n1 (fun x hx=>?_) (hkw.trans n2.kw) n2.now
           cases hxw:x.waiting with
           | false=>unfold dY;rw [hxw];rfl
           | true=>exact pH (hun x (hkw.trans n2.kw x hx hxw))
          ·rw [decide_eq_false hs] at he
           simp only [Bool.not_false,cond_true] at he
           exact absurd he hs
        ·rw [decide_eq_false h5] at he ⊢
         simp only [cond_false] at he ⊢
         by_cases h6:k.kind=6
         ·rw [decide_eq_true h6] at he ⊢
          simp only [cond_true] at he ⊢
          obtain ⟨q1,q2,hk,_⟩:=xY hci hi he
          exact fin _ q1 q2 hk.kw hk.now
         ·rw [decide_eq_false h6] at he ⊢
          simp only [cond_false] at he ⊢
          cases h8:decide (k.kind=8) && (Wk.pc ⟨c,[]⟩ i).waiting with
          | true=>rw [h8] at he;simp at he
          | false =>
           simp only [cond_false]
           obtain ⟨q1,q2,q3,q4,_⟩:=Hk (w:=⟨c,[]⟩) hci hi
           exact fin _ q1 q2 q3 q4
theorem Jy {c:Cs} {k:Cm} (he:(Ch c k).2.2=0):fB c=true∧fB (Ch c k).1=true:=by
 unfold Ch at he ⊢
 cases hc:fB c with
 | false=>rw [hc] at he;simp at he
 | true =>
  rw [hc] at he
  simp only [Bool.not_true,cond_false] at he ⊢
  by_cases h0:(DY ⟨c,[]⟩ k).2=0
  ·rw [decide_eq_true h0]
   exact ⟨trivial,KH hc h0⟩
  ·rw [decide_eq_false h0] at he
   simp only [Bool.not_false,cond_true] at he
   exact absurd he h0
def jY (n m:Int):Int:=bif decide (m<1) then 0 else bif decide (n.tmod m<0) then n.tmod m+m else n.tmod m
theorem qX {n m:Int} (h:1≤m):0≤jY n m∧jY n m<m:=by
 unfold jY
 rw [decide_eq_false (by omega),cond_false]
 by_cases h2:n.tmod m<0
 ·rw [decide_eq_true h2,cond_true]
  have:=Int.lt_tmod_of_pos n (show 0<m by omega)
  omega
 ·rw [decide_eq_false h2,cond_false]
  have:=Int.tmod_lt_of_pos n (show 0<m by omega)
  omega
structure Tp where
 l:List Int
 at_:Nat
def Tp.v (t:Tp) (m:Int):Int:=bif decide (t.l.length≤t.at_) then 0 else jY (t.l.getD t.at_ 0) m
def Tp.s (t:Tp):Tp:=bif decide (t.l.length≤t.at_) then t else ⟨t.l,t.at_+1⟩
theorem Tp.v_in (t:Tp) {m:Int} (h:1≤m):0≤t.v m∧t.v m<m:=by
 unfold Tp.v
 cases decide (t.l.length≤t.at_) with
 | true=>rw [cond_true];omega
 | false=>exact qX h
theorem Tp.s_l (t:Tp):t.s.l=t.l:=by unfold Tp.s;cases decide (t.l.length≤t.at_) <;> rfl
theorem Tp.s_at (t:Tp) (h:t.at_≤t.l.length):t.s.at_≤t.s.l.length:=by
 rw [Tp.s_l]
 unfold Tp.s
 by_cases h2:t.l.length≤t.at_
 ·rw [decide_eq_true h2];exact h
 ·rw [decide_eq_false h2];show t.at_+1≤_;omega
theorem Tp.s_le (t:Tp):t.at_≤t.s.at_:=by
 unfold Tp.s
 cases decide (t.l.length≤t.at_) with
 | true=>exact Nat.le_refl _
 | false=>exact Nat.le_succ _
theorem Tp.s_lt (t:Tp) (h:t.at_<t.l.length):t.s.at_=t.at_+1:=by
 unfold Tp.s
 rw [decide_eq_false (by omega)]
 rfl
def il (n:Int):Pr:=⟨(jY n 8).tmod 4,1,1+(jY n 8).tdiv 4⟩
def nA:ByteArray:=⟨#[97]⟩
def nB:ByteArray:=⟨#[98]⟩
def nC:ByteArray:=⟨#[99]⟩
def nD:ByteArray:=⟨#[100]⟩
def nP:ByteArray:=⟨#[112]⟩
def nQ:ByteArray:=⟨#[113]⟩
def qN (t:Tp):List Rs×Tp :=
 ([⟨nA,1,1,t.v 4⟩,⟨nB,1,1,t.s.v 4⟩,⟨nC,1,1,t.s.s.v 4⟩,⟨nD,1,1,t.s.s.s.v 4⟩,⟨nP,2,1+t.s.s.s.s.v 8,t.s.s.s.s.s.v 4⟩,⟨nQ,2,1+t.s.s.s.s.s.s.v 3,t.s.s.s.s.s.s.s.v 4⟩],t.s.s.s.s.s.s.s.s)
def A8 (n:Int):Int:=[5,5,3,4,2,1,3,5].getD (jY n 8).toNat 0
def Iv (r:Rs) (n:Int):Am:=bif decide (r.kind=1) then ⟨A8 n,0⟩ else ⟨0,1+jY n r.units⟩
def uB (first:Int):Nat→List Rs→List Tm
 | _,[]=>[]
 | i,r :: l=>⟨r.name,Iv r (first.fdiv (2 ^ (3*i)))⟩ :: uB first (i+1) l
def A9 (L:List Tm) (n:Int):Tm:=L.getD n.toNat ⟨⟨#[]⟩,Am.zero⟩
def jT (f:Tp→Ex×Tp):Nat→Tp→List Ex×Tp
 | 0,t=>([],t)
 | n+1,t=>((f t).1 :: (jT f n (f t).2).1,(jT f n (f t).2).2)
def eZ (L:List Tm):Nat→Tp→Ex×Tp
 | 0,t=>(.mk 0 (A9 L (t.v L.length)) [],t.s)
 | d+1,t=>bif decide (t.v 4=0) then (.mk 0 (A9 L (t.s.v L.length)) [],t.s.s) else
  (.mk (1+t.s.s.v (1+t.s.v 3)) ⟨⟨#[]⟩,Am.zero⟩ (jT (eZ L d) (1+t.s.v 3).toNat t.s.s.s).1,(jT (eZ L d) (1+t.s.v 3).toNat t.s.s.s).2)
def oq (t:Tp) (l:List Rs):Ex×Tp:=eZ (uB (t.v 1048576) 0 l) 2 t.s
def zP (t:Tp) (l:List Rs):Rq×Tp :=
 bif decide (t.s.v 5=1) then (⟨(oq t.s.s.s l).1,t.v 8,1+t.s.s.v 20⟩,(oq t.s.s.s l).2) else (⟨(oq t.s.s l).1,t.v 8,0⟩,(oq t.s.s l).2)
def wh (t:Tp) (l:List Rs):Cm×Tp :=
 let n:=t.v 16
 let p:=il (t.s.v 6)
 let u:=t.s.s
 bif decide (n=0) then (⟨1,p,Rq.zero,⟨#[]⟩,1+u.v 9⟩,u.s) else
 bif decide (n<9) then (⟨2,p,(zP u l).1,⟨#[]⟩,0⟩,(zP u l).2) else
 bif decide (n=9) then (⟨3,p,Rq.zero,⟨#[]⟩,0⟩,u) else
 bif decide (n=10) then (⟨4,p,Rq.zero,(l.getD (u.v l.length).toNat ⟨⟨#[]⟩,0,0,0⟩).name,0⟩,u.s) else
 bif decide (n=11) then (⟨5,p,Rq.zero,⟨#[]⟩,1+u.v 4⟩,u.s) else
 bif decide (n=12) then (⟨6,p,Rq.zero,⟨#[]⟩,u.v 5⟩,u.s) else
 bif decide (n=13) then (⟨7,p,Rq.zero,⟨#[]⟩,0⟩,u) else
 bif decide (n=14) then (⟨8,p,Rq.zero,⟨#[]⟩,0⟩,u) else (⟨9,p,Rq.zero,⟨#[]⟩,u.v 12⟩,u.s)
def x7 (i:Int) (t:Tp):Cm:=⟨1,il i,Rq.zero,⟨#[]⟩,1+t.v 9⟩
def sJ (cat:List Rs):Nat→Tp→List Cm
 | 0,_=>[]
 | n+1,t=>bif decide (t.at_<t.l.length) then (wh t cat).1 :: sJ cat n (wh t cat).2 else []
def iI (l:List Int):List Rs×List Cm :=
 let c:=qN ⟨l,0⟩
 let t:=c.2
 (c.1,[x7 0 t,x7 1 t.s,x7 2 t.s.s,x7 3 t.s.s.s]++sJ c.1 l.length t.s.s.s.s)
def jZ (r:Rs):Qu:=⟨r,[],[],[],0⟩
def x8:Cs→List Cm→Cs
 | c,[]=>c
 | c,k :: l=>x8 (bif decide ((Ch c k).2.2=0) then (Ch c k).1 else c) l
theorem wi:∀(l:List Cm) (c:Cs),fB c=true→fB (x8 c l)=true
 | [],_,h=>h
 | k :: l,c,h=>by
  show fB (x8 (bif decide ((Ch c k).2.2=0) then (Ch c k).1 else c) l)=true
  by_cases he:(Ch c k).2.2=0
  ·rw [decide_eq_true he];exact wi l _ (Jy he).2
  ·rw [decide_eq_false he];exact wi l c h
structure Adv (t t':Tp):Prop where
 l:t'.l=t.l
 le:t.at_≤t'.at_
 ok:t.at_≤t.l.length→t'.at_≤t'.l.length
theorem Adv.refl (t:Tp):Adv t t:=⟨rfl,Nat.le_refl _,id⟩
theorem Adv.trans {a b c:Tp} (h:Adv a b) (k:Adv b c):Adv a c:=⟨k.l.trans h.l,Nat.le_trans h.le k.le,fun e=>k.ok (h.ok e)⟩
theorem Adv.s (t:Tp):Adv t t.s:=⟨t.s_l,t.s_le,t.s_at⟩
theorem Adv.ss {t u:Tp} (h:Adv t u):Adv t u.s:=h.trans (Adv.s u)
theorem uC {f:Tp→Ex×Tp} (hf:∀t,Adv t (f t).2):∀(n:Nat) (t:Tp),Adv t (jT f n t).2
 | 0,t=>Adv.refl t
 | n+1,t=>(hf t).trans (uC hf n (f t).2)
theorem mW (L:List Tm):∀(d:Nat) (t:Tp),Adv t (eZ L d t).2
 | 0,t=>Adv.s t
 | d+1,t=>by
  unfold eZ
  cases decide (t.v 4=0) with
  | true=>exact (Adv.s t).ss
  | false=>exact (Adv.s t).ss.ss.trans (uC (mW L d) _ _)
theorem uD (t:Tp) (l:List Rs):Adv t (oq t l).2:=(Adv.s t).trans (mW _ 2 _)
theorem EI (t:Tp) (l:List Rs):Adv t (zP t l).2:=by
 unfold zP
 cases decide (t.s.v 5=1) with
 | true=>exact (Adv.s t).ss.ss.trans (uD _ _)
 | false=>exact (Adv.s t).ss.trans (uD _ _)
theorem EJ (t:Tp) (l:List Rs):Adv t.s (wh t l).2:=by
 have h:=Adv.s t.s
 have h1:=h.ss
 have h2:=h.trans (EI t.s.s l)
 unfold wh
 dsimp only
 generalize decide (t.v 16=0)=b0
 generalize decide (t.v 16<9)=b1
 generalize decide (t.v 16=9)=b2
 generalize decide (t.v 16=10)=b3
 generalize decide (t.v 16=11)=b4
 generalize decide (t.v 16=12)=b5
 generalize decide (t.v 16=13)=b6
 generalize decide (t.v 16=14)=b7
 cases b0
 case true=>exact h1
 cases b1
 case true=>exact h2
 cases b2
 case true=>exact h
 cases b3
 case true=>exact h1
 cases b4
 case true=>exact h1
 cases b5
 case true=>exact h1
 cases b6
 case true=>exact h
 cases b7
 case true=>exact h
 exact h1
section
variable {P:Program} {o:Oper} {s:Mst}
theorem bt {src dst:TypeId} {x:Operand} {k k2:IntKind} {n m:Int} (ho:o.op = .convert src dst x) (hs:P.underlying src=some (.int k)) (hd:P.underlying dst=some (.int k2)) (hx:s.ev x = .c (.sc (.int k n))) (h:k2.wrap n=m):LOp P o s [] ⟨.c (.sc (.int k2 m)),[],[]⟩ :=
 AA (by rw [ho];rfl) hx fun ev w hx=>by simp [execOp,ho,hx,convert,run_underlying hs,run_underlying hd,Conv.intToInt,h]
theorem Hs {t t':TypeId} {x y:Operand} {kd k2:IntKind} {a b c:Int} (ho:o.op = .binOp .shr t x y t') (hx:s.ev x = .c (.sc (.int kd a))) (hy:s.ev y = .c (.sc (.int k2 b))) (h0:0≤b) (hb:b.toNat≤kd.bits) (h:a.fdiv (2 ^ b.toNat)=c):LOp P o s [] ⟨.c (.sc (.int kd c)),[],[]⟩ :=
 fq (by rw [ho];rfl) hx hy fun ev w hx hy=>by
  have:¬b<0:=by omega
  simp [execOp,ho,hx,hy,eqGuard,binOp,Op.shift,this,Nat.min_eq_left hb,h]
end
instance:Dp fm:=ed _ _ _ _ _
instance:ST prog fm 42 3 8:=⟨ElTB.mk' underlying42 (.int .i64 0) 1 8 (by kernel_rfl) rfl rfl⟩
theorem KI (n m:Int) (hm:m≤1048576):FSpec prog 96 [jX n,jX m] [] [] (.i (jY n m)) []:=by
 refine aX func96 ?_
 by_cases h1:m<1
 ·have e:jY n m=0:=by unfold jY;rw [decide_eq_true h1];rfl
  rw [e]
  repeat' (first
   | refine ah ?_ ?_
   | refine af ?_
   | exact ai|refine ae fun hb=>?_
   | (refine aE (qf []) ?_;exact ab))
 ·have k1:n.tmod m<m:=Int.tmod_lt_of_pos n (by omega)
  have k2 : -m<n.tmod m:=Int.lt_tmod_of_pos n (by omega)
  obtain ⟨r,hr⟩:∃r,n.tmod m=r:=⟨_,rfl⟩
  have e:jY n m=bif decide (r<0) then r+m else r:=by unfold jY;rw [decide_eq_false h1,hr];rfl
  rw [e]
  rw [hr] at k1 k2
  by_cases h2:r<0
  ·rw [decide_eq_true h2]
   repeat' (first
    | refine ah ?_ ?_
    | (refine aa 10 rfl ?_;refine sx (vz rfl rfl rfl (by omega) hr) ?_)
    | refine af ?_
    | exact ai|refine ae fun hb=>?_
    | (refine aE (qf []) ?_;exact ab))
  ·rw [decide_eq_false h2]
   repeat' (first
    | refine ah ?_ ?_
    | (refine aa 10 rfl ?_;refine sx (vz rfl rfl rfl (by omega) hr) ?_)
    | refine af ?_
    | exact ai|refine ae fun hb=>?_
    | (refine aE (qf []) ?_;exact ab))
theorem EK (n m:Int) (hm:m≤1048576) {r:Int} (h:jY n m=r):FSpec prog 96 [jX n,jX m] [] [] (.i r) []:=h▸KI n m hm
def Jz (t:Tp):List D:=[.sl fm t.l,.sc (.int .i64 t.at_)]
def HT (t:Tp):List (Nat×Box):=[(0,.box 115 (Jz t))]
def Iw (t:Tp):List (Nat×Option Box):=[(0,some (.box 115 (Jz t)))]
structure TOk (t:Tp):Prop where
 le:t.at_≤t.l.length
 len:t.l.length≤100000
theorem TOk.s {t:Tp} (h:TOk t):TOk t.s:=⟨t.s_at h.le,by rw [t.s_l];exact h.len⟩
theorem TOk.adv {t u:Tp} (h:TOk t) (k:Adv t u):TOk u:=⟨k.ok h.le,by rw [k.l];exact h.len⟩
theorem jH (t:Tp) (m:Int) (h:TOk t) (hm:m≤1048576):FSpec prog 57 [jR,jX m] (HT t) [] (.i (t.v m)) (Iw t.s):=by
 refine aX func57 ?_
 have hl:=h.len
 have hle:=h.le
 by_cases h1:t.l.length≤t.at_
 ·have e1:t.v m=0:=by unfold Tp.v;rw [decide_eq_true h1];rfl
  have e2:t.s=t:=by unfold Tp.s;rw [decide_eq_true h1];rfl
  rw [e1,e2]
  repeat' (first
   | refine ah ?_ ?_
   | refine af ?_
   | exact ai|refine ae fun hb=>?_
   | (refine aE (qf [(0,0)]) ?_;exact ab))
 ·obtain ⟨x,hx⟩:∃x,t.l[t.at_]? = some x:=⟨_,List.getElem?_eq_getElem (by omega)⟩
  have e1:t.v m=jY x m:=by unfold Tp.v;rw [decide_eq_false h1,cond_false,List.getD_eq_getElem?_getD,hx];rfl
  have e2:t.s=⟨t.l,t.at_+1⟩:=by unfold Tp.s;rw [decide_eq_false h1];rfl
  rw [e1,e2]
  have hx2:t.l[((t.at_:Int)+1-1).toNat]? = some x:=by rw [←hx];congr 1;omega
  have kM:=KI x m hm
  repeat' (first
   | refine ah ?_ ?_
   | refine aa 9 rfl (cB [] (kM) ?_)
   | refine af ?_
   | exact ai|refine ae fun hb=>?_
   | (refine aE (qf [(0,0)]) ?_;exact ab))
theorem JA (t:Tp) (h:TOk t):FSpec prog 58 [jR] (HT t) [] (.b (decide (t.at_<t.l.length))) (Iw t):=by
 refine aX func58 ?_
 have hl:=h.len
 have e:decide (t.at_<t.l.length)=decide ((t.at_:Int)<t.l.length):=by rw [Bool.eq_iff_iff];simp
 rw [e]
 repeat' (first
  | refine ah ?_ ?_
  | refine af ?_
  | exact ai|refine ae fun hb=>?_
  | (refine aE (qf [(0,0)]) ?_;exact ab))
theorem pI (n:Int):FSpec prog 55 [jX n] [] [] (.v (il n).a) []:=by
 refine aX func55 ?_
 obtain ⟨r,hr⟩:∃r,jY n 8=r:=⟨_,rfl⟩
 have kM:=EK n 8 (by omega) hr
 have hb:=qX (n:=n) (m:=8) (by omega)
 rw [hr] at hb
 have e:il n=⟨r.tmod 4,1,1+r.tdiv 4⟩:=by unfold il;rw [hr]
 rw [e]
 have hq:0≤r.tdiv 4∧r.tdiv 4≤8:=by rw [Int.tdiv_eq_ediv_of_nonneg hb.1];omega
 obtain ⟨q,hq2⟩:∃q,r.tdiv 4=q:=⟨_,rfl⟩
 rw [hq2] at hq ⊢
 repeat' (first
  | refine ah ?_ ?_
  | refine aa 9 rfl (cB [] (kM) ?_)
  | (refine aa 10 rfl ?_;first
   | (refine sx (GC rfl rfl rfl (by decide) ((congrArg _ hq2).trans (IntWalk.i64_in _ (by omega)))) ?_)
   | (refine sx (vz rfl rfl rfl (by decide) rfl) ?_))
  | refine af ?_
  | exact ai|refine ae fun hb=>?_
  | (refine aE (qf []) ?_;exact ab))
theorem gR {P:Program} {o:Oper} {s:Mst} {t e:TypeId} {x:Operand} {k n:Nat} [SE P t e] (ho:o.op = .call { callee:=.builtin .len,args:=#[x],argTypes:=#[t] }) (hx:s.ev x = .c (.slb k n)):LOp P o s [] ⟨.i n,[],[]⟩ :=
 g7 (ty:=0) ho fun c st ρ a w hr he _=>by
  have hv:=hr.ev x
  rw [he,hx] at hv
  obtain ⟨g,_,hv⟩:=hv
  exact ⟨_,_,hv⟩
theorem cb {P:Program} {o:Oper} {s:Mst} {t e:TypeId} {x y:Operand} {row:Bool} {n i k m:Nat} {kd:IntKind} {z:Int} (ho:o.op = .indexAddr t x y) (hx:s.ev x = .c (.slb k m)) (hy:s.ev y = .c (.sc (.int kd z))) [SE P t e] [TI P e row n] (hz:z=(i:Int)) (hi:i<m) :
  LOp P o s [] ⟨.c (.ptr k (i*n)),[],[]⟩ :=
 bc fun c st ρ a w hr h1 _=>by
  have he:=h1 x (by simp [ho,Op.operands])
  have he2:=h1 y (by simp [ho,Op.operands])
  rw [hx] at he
  rw [hy] at he2
  have hv:=hr.ev x
  rw [he] at hv
  have hv2:=hr.ev y
  rw [he2] at hv2
  obtain ⟨g,hg,hv⟩:=hv
  have hv2:a.eval y = .int kd z:=hv2
  subst hz
  refine ⟨.pointer (some ⟨g,i*n,none⟩),by unfold execOp;rw [ho];simp only [hv,hv2,Sem.run_bind,iA w m m i hi,Result.andThen_ok,Sem.run_pure,Nat.zero_add],⟨g,hg,rfl⟩,fun k' hk=>hr.nf (x:=x) he hk⟩
theorem JB (n:Int):FSpec prog 227 [jX n] [] [] (.i (A8 n)) []:=by
 refine aX func227 ?_
 obtain ⟨r,hr⟩:∃r,jY n 8=r:=⟨_,rfl⟩
 have kM:=EK n 8 (by omega) hr
 have hb:=qX (n:=n) (m:=8) (by omega)
 unfold A8
 rw [hr] at hb ⊢
 obtain rfl|rfl|rfl|rfl|rfl|rfl|rfl|rfl:r=0∨r=1∨r=2∨r=3∨r=4∨r=5∨r=6∨r=7:=by omega
 all_goals
  repeat' (first
   | refine ah ?_ ?_
   | (refine aa 6 rfl ?_;first
    | (refine sx (cb (i:=7) rfl rfl rfl rfl (by decide)) ?_)
    | (refine sx (cb (i:=6) rfl rfl rfl rfl (by decide)) ?_)
    | (refine sx (cb (i:=5) rfl rfl rfl rfl (by decide)) ?_)
    | (refine sx (cb (i:=4) rfl rfl rfl rfl (by decide)) ?_)
    | (refine sx (cb (i:=3) rfl rfl rfl rfl (by decide)) ?_)
    | (refine sx (cb (i:=2) rfl rfl rfl rfl (by decide)) ?_)
    | (refine sx (cb (i:=1) rfl rfl rfl rfl (by decide)) ?_)
    | (refine sx (cb (i:=0) rfl rfl rfl rfl (by decide)) ?_))
   | (refine aa 7 rfl ?_;refine sx (gR rfl rfl) ?_)
   | refine aa 9 rfl (cB [] (kM) ?_)
   | refine af ?_
   | exact ai|refine ae fun hb=>?_
   | (refine aE (qf []) ?_;exact ab))
theorem Mb (r:Rs) (n:Int) (hr:1≤r.units∧r.units≤1000):FSpec prog 180 [r.a,jX n] [] [] (.v (Iv r n).a) []:=by
 refine aX func180 ?_
 by_cases hk:r.kind=1
 ·have e:Iv r n=⟨A8 n,0⟩:=by unfold Iv;rw [decide_eq_true hk];rfl
  rw [e]
  have kM:=JB n
  repeat' (first
   | refine ah ?_ ?_
   | refine aa 9 rfl (cB [] (kM) ?_)
   | refine af ?_
   | exact ai|(refine ae fun hb=>?_;first|(exact absurd hk hb)|skip)
   | (refine aE (qf []) ?_;exact ab))
 ·obtain ⟨v,hv⟩:∃v,jY n r.units=v:=⟨_,rfl⟩
  have hb:=qX (n:=n) hr.1
  have kM:=EK n r.units (by omega) hv
  have e:Iv r n=⟨0,1+v⟩:=by unfold Iv;rw [decide_eq_false hk,hv];rfl
  rw [e]
  rw [hv] at hb
  repeat' (first
   | refine ah ?_ ?_
   | refine aa 9 rfl (cB [] (kM) ?_)
   | refine af ?_
   | exact ai|(refine ae fun hb=>?_;first|(exact absurd hb hk)|skip)
   | (refine aE (qf []) ?_;exact ab))
end Go.Proofs.YtdaajdflefnjfaaGreat
