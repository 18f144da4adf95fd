/- Part 14 of 24 of the proof of rollbackBytes_holds (no condition). -/
import Derived.Test.YtdaajdflefnjfaaGreatL13
set_option linter.unusedVariables false
set_option linter.unusedSimpArgs false
set_option maxRecDepth 100000
set_option maxHeartbeats 64000000
namespace Go.Proofs.YtdaajdflefnjfaaGreat
open Go.RowKit Go.Proofs.Tryz
def LH (p:Pc) (s:Sv):Opn:=Hf p (bp p.led s.label) s.label
def wG (p:Pc):List Opn:=p.led.saves.reverse.map (LH p)++[Hf p Lg.zero (-1)]
def mx (p:Pc):List Opn:=bif !(fI p.proc && decide (1≤p.cost) && decide (p.cost≤1000) && qi p.led && (!p.waiting || qL p.req)) then [] else bif (wG p).all mS then wG p else []
theorem uu {g:Lg} (h:qi g=true) {s:Sv} (hs:s∈g.saves):∃A,b9 g s.label=(bp g s.label,A,0)∧(bp g s.label).entries.length≤g.entries.length:=by
 have hl:=(f5.1 h)
 have h1:¬s.label=0:=by have:=(hl.svs.lab s hs).1.1;omega
 have h2:¬aJ s.label 0 g.saves<0:=fun hn=>rY.1 hn s hs rfl
 refine ⟨_,by unfold b9;rw [h,decide_eq_false h1,decide_eq_false h2];rfl,?_⟩
 unfold bp
 rw [decide_eq_false h1,cond_false]
 simp
 omega
theorem Ey (d:Nat) (p:Pc) {R:List Opn} (hR:mx p=R):FSpec prog 10 [p.a d] [] [] (.c (.sl tj R)) []:=by
 refine aX func10 ?_
 unfold mx at hR
 have kV:=d7 p.proc
 have kG:=ce p.led
 have kQ:=se d p.req
 obtain ⟨v,hv⟩:∃v,fI p.proc=v:=⟨_,rfl⟩
 obtain ⟨g,hg⟩:∃g,qi p.led=g:=⟨_,rfl⟩
 obtain ⟨q,hq⟩:∃q,qL p.req=q:=⟨_,rfl⟩
 rw [hv] at kV hR
 rw [hg] at kG hR
 rw [hq] at kQ hR
 by_cases hA:v=true∧(1≤p.cost∧p.cost≤1000)∧g=true∧(p.waiting=true→q=true)
 case neg =>
  obtain rfl:R=[]:=by
   rw [←hR]
   cases hh:v && decide (1≤p.cost) && decide (p.cost≤1000) && g && (!p.waiting || q) with
   | false=>rfl
   | true =>
    simp only [Bool.and_eq_true,Bool.or_eq_true,decide_eq_true_eq,Bool.not_eq_true'] at hh
    exact absurd ⟨hh.1.1.1.1,⟨hh.1.1.1.2,hh.1.1.2⟩,hh.1.2,fun hw=>by
     rcases hh.2 with h|h
     ·rw [hw] at h;cases h
     ·exact h⟩ hA
  cases v with
  | false =>
   repeat' (first
    | refine ah ?_ ?_
    | refine aa 9 rfl (cB [] (kV) ?_)
    | refine af ?_
    | exact ai|refine ae fun hb=>?_
    | (refine aE (qf []) ?_;exact ab))
  | true =>
   by_cases hc:p.cost<1
   ·repeat' (first
     | refine ah ?_ ?_
     | refine aa 9 rfl (cB [] (kV) ?_)
     | refine af ?_
     | exact ai|refine ae fun hb=>?_
     | (refine aE (qf []) ?_;exact ab))
   by_cases hc2:1000<p.cost
   ·repeat' (first
     | refine ah ?_ ?_
     | refine aa 9 rfl (cB [] (kV) ?_)
     | refine af ?_
     | exact ai|refine ae fun hb=>?_
     | (refine aE (qf []) ?_;exact ab))
   cases g with
   | false =>
    repeat' (first
     | refine ah ?_ ?_
     | (refine aa 9 rfl ?_;first
      | (refine cB [] (kV) ?_)
      | (refine cB [] (kG) ?_))
     | refine af ?_
     | exact ai|refine ae fun hb=>?_
     | (refine aE (qf []) ?_;exact ab))
   | true =>
    cases hw:p.waiting with
    | false=>exact absurd ⟨rfl,⟨by omega,by omega⟩,rfl,fun h=>by rw [hw] at h;cases h⟩ hA
    | true =>
     cases q with
     | true=>exact absurd ⟨rfl,⟨by omega,by omega⟩,rfl,fun _=>rfl⟩ hA
     | false =>
      repeat' (first
       | refine ah ?_ ?_
       | (refine aa 9 rfl ?_;first
        | (refine cB [] (kV) ?_)
        | (refine cB [] (kG) ?_)
        | (refine cB [] (kQ) ?_))
       | refine af ?_
       | exact ai|(refine ae fun hb=>?_;first|(cases hw.symm.trans hb;done)|skip)
       | (refine aE (qf []) ?_;exact ab))
 obtain ⟨rfl,⟨hc1,hc2⟩,rfl,hwq⟩:=hA
 rw [decide_eq_true hc1,decide_eq_true hc2,show (!p.waiting || q)=true by cases hw:p.waiting with|false=>rfl|true=>rw [hwq hw];rfl] at hR
 have hR:(bif (wG p).all mS then wG p else [])=R:=hR
 obtain ⟨h72,h4⟩:=f8 hg
 cases hw:p.waiting
 case' true =>
  have hq1:=hwq hw
  subst hq1
  repeat' (first
   | refine ah ?_ ?_
   | (refine aa 9 rfl ?_;first
    | (refine cB [] (kV) ?_)
    | (refine cB [] (kG) ?_)
    | (refine cB [] (kQ) ?_))
   | refine af ?_
   | exact ai|(refine ae fun hb=>?_;first|(cases hw.symm.trans hb;done)|skip))
 case' false =>
  repeat' (first
   | refine ah ?_ ?_
   | (refine aa 9 rfl ?_;first
    | (refine cB [] (kV) ?_)
    | (refine cB [] (kG) ?_))
   | refine af ?_
   | exact ai|(refine ae fun hb=>?_;first|(cases hw.symm.trans hb;done)|skip))
 all_goals
  refine cc 3 1000 41 tj rfl rfl rfl ?_
  refine ak (fun y:Nat×List Opn=>y.1≤p.led.saves.length∧y.2.length+y.1=p.led.saves.length∧y.2=(p.led.saves.drop y.1).reverse.map (LH p)) (fun y=>bH [1,1000] [(1,.c (.ptr 1 0)),(3,.c (.own 1000)),(4,.i ((y.1:Int)-1))] [(1,.box 38 (p.d d)),(1000,.arr 41 tj y.2)]) (fun y=>y.1) (p.led.saves.length,[]) ⟨Nat.le_refl _,by simp,by simp⟩ (by exact ao (qf [])) ?_
  rintro ⟨k,T⟩ ⟨hk,hTl,hT⟩
  dsimp only at *
  cases k with
  | succ m =>
   have hm:m<p.led.saves.length:=hk
   have em:(((m+1:Nat):Int)-1).toNat=m:=by omega
   obtain ⟨s,hs⟩:∃s,p.led.saves[(((m+1:Nat):Int)-1).toNat]? = some s:=⟨_,by rw [em];exact List.getElem?_eq_getElem hm⟩
   have hs':p.led.saves[m]=s:=by
    rw [em] at hs
    exact (List.getElem?_eq_some_iff.1 hs).2
   obtain ⟨A,hU,hle⟩:=uu hg (hs'▸List.getElem_mem hm)
   have kU:=Is p.led s.label hU
   obtain ⟨O,hO⟩:∃O,LH p s=O:=⟨_,rfl⟩
   have kO:=A5 d p (bp p.led s.label) s.label hle h72 ⟨by omega,hc2⟩ hO
   have hnx:T++[O]=(p.led.saves.drop m).reverse.map (LH p):=by
    rw [hT,List.drop_eq_getElem_cons hm,hs',List.reverse_cons,List.map_append,←hO]
    rfl
   generalize bp p.led s.label=X at *
   clear hU hO hle
   repeat' (first
    | refine ah ?_ ?_
    | (refine aa 8 rfl ?_;refine aM (aj rfl rfl (ax rfl rfl) (aB [O] rfl rfl rfl rfl) rfl aC aC) rfl rfl rfl ?_)
    | (refine aa 9 rfl ?_;first
     | (refine cC [] (kU) ?_)
     | (refine cC [] (kO) ?_))
    | refine af ?_
    | exact ai|refine ae fun hb=>?_)
   refine ⟨(m,T++[O]),⟨by dsimp only;omega,by simp;omega,hnx⟩,by dsimp only;omega,?_⟩
   exact ao (qf [(1000,77)])
  | zero =>
   obtain ⟨O,hO⟩:∃O,Hf p Lg.zero (-1)=O:=⟨_,rfl⟩
   have kO:=A5 d p Lg.zero (-1) (Nat.zero_le _) h72 ⟨by omega,hc2⟩ hO
   have hL:wG p=T++[O]:=by unfold wG;rw [hT,hO];simp
   rw [hL] at hR
   have hLl:(T++[O]).length≤5:=by simp;omega
   clear hO hL hT
   repeat' (first
    | refine ah ?_ ?_
    | (refine aa 8 rfl ?_;refine aM (aj rfl rfl (ax rfl rfl) (aB [O] rfl rfl rfl rfl) rfl aC aC) rfl rfl rfl ?_)
    | refine aa 9 rfl (cC [] (kO) ?_)
    | refine af ?_
    | exact ai|refine ae fun hb=>?_)
   generalize T++[O]=L at *
   refine ak (fun i=>i≤L.length∧L.all mS=(L.drop i).all mS) (fun i=>bH [1,1000] [(1,.c (.ptr 1 0)),(3,.c (.own 1000)),(84,.c (.own 1000)),(85,.i L.length),(86,.i i)] [(1,.box 38 (p.d d)),(1000,.arr 41 tj L)]) (fun i=>L.length-i) 0 ⟨Nat.zero_le _,rfl⟩ (by exact ao (qf [(1000,83)])) ?_
   rintro i ⟨hi,hs⟩
   by_cases hlt:i<L.length
   ·obtain ⟨x,hx⟩:∃x,L[i]? = some x:=⟨_,List.getElem?_eq_getElem hlt⟩
    have ex:L[i]=x:=(List.getElem?_eq_some_iff.1 hx).2
    rw [List.drop_eq_getElem_cons hlt,ex,List.all_cons] at hs
    obtain ⟨b,hb0⟩:∃b,mS x=b:=⟨_,rfl⟩
    have kX:=qW x hb0
    rw [hb0] at hs
    cases b with
    | false =>
     rw [hs] at hR
     obtain rfl:R=[]:=hR.symm
     repeat' (first
      | refine ah ?_ ?_
      | refine aa 9 rfl (cB [] (kX) ?_)
      | refine af ?_
      | exact ai|refine ae fun hb=>?_
      | (refine aE (qf []) ?_;exact ab))
    | true =>
     repeat' (first
      | refine ah ?_ ?_
      | refine aa 9 rfl (cB [] (kX) ?_)
      | refine af ?_
      | exact ai|refine ae fun hb=>?_)
     refine ⟨i+1,⟨by omega,by rw [hs,Bool.true_and]⟩,by omega,?_⟩
     exact ao (qf [])
   ·rw [List.drop_eq_nil_of_le (by omega),List.all_nil] at hs
    rw [hs] at hR
    obtain rfl:R=L:=hR.symm
    repeat' (first
     | refine ah ?_ ?_
     | refine af ?_
     | exact ai|refine ae fun hb=>?_
     | (refine aE (qf []) ?_;exact ab))
theorem Eff.trans {a b c:Qu} {p:Pr} (h:Eff a b p) (k:Eff b c p):Eff a c p:=by
 rcases h with ⟨h1,h2⟩|⟨x,h1,h2,h3⟩
 ·rcases k with ⟨k1,k2⟩|⟨x,k1,k2,k3⟩
  ·exact .inl ⟨k1.trans h1,k2.trans h2⟩
  ·exact .inr ⟨x,h2.symm.trans k1,k2,k3⟩
 ·rcases k with ⟨k1,k2⟩|⟨y,k1,_⟩
  ·exact .inr ⟨x,h1,k1.trans h2,k2.trans h3⟩
  ·rw [h3] at k1;cases k1
theorem Out.trans {a b c:Qu} {p:Pr} (h:Out a b p) (k:Out b c p):Out a c p :=
 ⟨k.ok,k.res.trans h.res,fun r hr=>(h.eff r hr).trans (k.eff r hr),fun x hx hp=>by
  obtain ⟨y,hy,e1,e2⟩:=k.prio x hx hp
  obtain ⟨z,hz,e3,e4⟩:=h.prio y hy (by rw [e1];exact hp)
  exact ⟨z,hz,e3.trans e1,e4.trans e2⟩⟩
theorem TP.refl {t:List Qu} (hv:ez t=true) (p:Pr):TP t t p:=⟨hv,rfl,fun _ hn=>Out.same p (dJ hv (dF hn).1),fun _ hr=>.inr hr⟩
theorem TP.trans {a b c:List Qu} {p:Pr} (h:TP a b p) (k:TP b c p):TP a c p :=
 ⟨k.v,k.nm.trans h.nm,fun n hn=>(h.out n hn).trans (k.out n (by rw [h.hasE];exact hn)),fun r hr=>by
  rcases k.sub r hr with e|e
  ·exact .inl e
  ·exact h.sub r e⟩
structure WS (w w':Wk) (p:Pr) (N:ByteArray→Prop):Prop where
 tp:TP w.c.queues w'.c.queues p
 oth:∀m,¬N m→aV w.c.queues m=true→bf w'.c.queues m=bf w.c.queues m
 procs:w'.c.procs=w.c.procs
 now:w'.c.now=w.c.now
theorem WS.refl {w:Wk} (hv:ez w.c.queues=true) (p:Pr) (N:ByteArray→Prop):WS w w p N:=⟨TP.refl hv p,fun _ _ _=>rfl,rfl,rfl⟩
theorem WS.trans {a b c:Wk} {p:Pr} {N:ByteArray→Prop} (h:WS a b p N) (k:WS b c p N):WS a c p N :=
 ⟨h.tp.trans k.tp,fun m hm hh=>(k.oth m hm (by rw [h.tp.hasE];exact hh)).trans (h.oth m hm hh),k.procs.trans h.procs,k.now.trans h.now⟩
theorem WS.mono {a b:Wk} {p:Pr} {N M:ByteArray→Prop} (h:WS a b p N) (hm:∀m,N m→M m):WS a b p M:=⟨h.tp,fun m hM hh=>h.oth m (fun e=>hM (hm m e)) hh,h.procs,h.now⟩
theorem WS.take {w:Wk} {t:List Qu} {ev:List Ev} {p:Pr} {n:ByteArray} (hv:ez w.c.queues=true) (h:TStep w.c.queues t p n):WS w (w.take t ev) p (· = n):=⟨h.tp hv,fun m hm hh=>h.oth m hm hh,rfl,rfl⟩
theorem It {r:Rs} {l a:Am} (hs:bb r=true) (ha:aH r a=true) (hc:bq r l a=false) (hl:l=⟨0,0⟩∨aH r l=true) :
  aH r (bV r l a)=true∧bq r (bV r l a) l=true∧bq r (bV r l a) a=true∧bV r l a≠l:=by
 rcases hl with rfl|hl
 ·rw [rW ha]
  have p0:cQ r ⟨0,0⟩=true:=by unfold cQ aO;rw [hs];rfl
  refine ⟨ha,?_,rP ha,?_⟩
  ·unfold bq;rw [cE ha,p0];rfl
  ·exact bz.1 (dR ha)
 ·exact AI hl ha hc
theorem sr {t:List Qu} {x:Pc} (h:PStat t x) (n:ByteArray):iH x n=⟨0,0⟩∨aH (bf t n).res (iH x n)=true:=by
 by_cases e:iH x n=⟨0,0⟩
 ·exact .inl e
 ·exact .inr (h.hf n e).2
theorem py {t:List Qu} (hv:ez t=true) {n:ByteArray} (h:aV t n=true):bb (bf t n).res=true:=(aG (dJ hv (dF h).1)).hv.shp
theorem xU {w:Wk} {x:Pc} {n:ByteArray} {a:Am} (hv:ez w.c.queues=true) (hn:aV w.c.queues n=true) (hs:PStat w.c.queues x) (ha:aH (bf w.c.queues n).res a=true) (hf:FitA w.c.queues n x a) :
  WS w (bS w x n) x.proc (· = n)∧FitR (bS w x n).c.queues n x:=by
 have same:FitR w.c.queues n x→WS w (bS w x n) x.proc (· = n)∧FitR (bS w x n).c.queues n x:=by
  intro h
  have e1:ic w x.proc n=w:=by unfold ic;rw [h.w];rfl
  have e2:bS w x n=w:=by
   unfold bS cI
   rw [e1,decide_eq_true h.h]
   rfl
  rw [e2]
  exact ⟨WS.refl hv _ _,h⟩
 rcases hf with ⟨_,h⟩|⟨hc,⟨h1,h2⟩|⟨h1,h2,_⟩⟩
 ·exact same h
 ·obtain ⟨j1,j2,_,j4⟩:=It (py hv hn) ha hc (sr hs n)
  have e1:ic w x.proc n=w:=by unfold ic;rw [h2];rfl
  have hne:aq (bf w.c.queues n).holds x.proc≠aw x.led.entries n:=by rw [h1];exact j4
  have h0:aq (bf w.c.queues n).holds x.proc≠⟨0,0⟩:=by rw [h1];exact bz.1 (dR j1)
  obtain ⟨e,hst,k1,k2⟩:=pu (a:=⟨n,aw x.led.entries n⟩) hv hn h0 h2 (by rw [h1];exact j2)
  have e2:bS w x n=eX w x.proc ⟨n,aw x.led.entries n⟩:=by
   unfold bS cI
   rw [e1,decide_eq_false hne]
   rfl
  rw [e2]
  exact ⟨WS.take hv hst,⟨k1,k2⟩⟩
 ·obtain ⟨e,hst,k1,k2⟩:=sk (p:=x.proc) hv hn (by rw [h2];rfl)
  have e1:ic w x.proc n=lL w x.proc n:=by unfold ic;rw [h2];rfl
  have hq:aq (bf (lL w x.proc n).c.queues n).holds x.proc=aw x.led.entries n:=k1.trans h1
  have e2:bS w x n=lL w x.proc n:=by
   unfold bS cI
   rw [e1,decide_eq_true hq]
   rfl
  rw [e2]
  exact ⟨WS.take hv hst,⟨hq,k2⟩⟩
theorem zM {l:List Tm} {n:ByteArray} {a:Tm} (h:dK l n=some a):a∈l∧a.name=n:=by
 unfold dK at h
 exact ⟨List.mem_of_find?_eq_some h,aW.1 (by have:=List.find?_some h;simpa using this)⟩
theorem jE {l:List Tm} {n:ByteArray}:dK l n=none↔∀a∈l,a.name≠n:=by
 unfold dK
 rw [List.find?_eq_none]
 constructor
 ·intro h a ha e
  exact h a ha (aW.2 e)
 ·intro h a ha e
  exact h a ha (aW.1 e)
theorem dG (a:Tm) (l:List Tm) (n:ByteArray):dK (a :: l) n=bif aT a.name n then some a else dK l n:=by
 unfold dK
 rw [List.find?_cons]
 cases aT a.name n <;> rfl
def Hg (l:List Tm):Prop:=l.Pairwise fun a b=>a.name≠b.name
def Rsl (t:List Qu) (l:List Tm):Prop:=∀a∈l,aV t a.name=true∧aH (bf t a.name).res a.am=true
theorem uv {t:List Qu}:∀{l:List Tm},gF t l=0↔Rsl t l
 | []=>by simp [gF,Rsl]
 | a :: l=>by
  unfold gF
  cases h1:aV t a.name with
  | false =>
   simp only [Bool.not_false,cond_true]
   constructor
   ·intro h;cases h
   ·intro h;have:=(h a (by simp)).1;rw [h1] at this;cases this
  | true =>
   simp only [Bool.not_true,cond_false]
   cases h2:aH (bf t a.name).res a.am with
   | false =>
    simp only [Bool.not_false,cond_true]
    constructor
    ·intro h;cases h
    ·intro h;have:=(h a (by simp)).2;rw [h2] at this;cases this
   | true =>
    simp only [Bool.not_true,cond_false]
    rw [uv]
    constructor
    ·intro h b hb
     rcases List.mem_cons.1 hb with rfl|hb
     ·exact ⟨h1,h2⟩
     ·exact h b hb
    ·intro h b hb;exact h b (by simp [hb])
theorem Rsl.tp {t t':List Qu} {p:Pr} {l:List Tm} (hs:TP t t' p) (h:Rsl t l):Rsl t' l:=fun a ha=>by
 obtain ⟨h1,h2⟩:=h a ha
 exact ⟨by rw [hs.hasE];exact h1,by rw [(hs.out _ h1).res];exact h2⟩
theorem FitR.eq {t t':List Qu} {n:ByteArray} {x:Pc} (h:FitR t n x) (e:bf t' n=bf t n):FitR t' n x:=⟨by rw [e];exact h.h,by rw [e];exact h.w⟩
theorem FitA.eq {t t':List Qu} {n:ByteArray} {x:Pc} {a:Am} (h:FitA t n x a) (e:bf t' n=bf t n):FitA t' n x a:=by
 unfold FitA jn at *
 rw [e]
 rcases h with ⟨h1,h2⟩|h
 ·exact .inl ⟨h1,h2.eq e⟩
 ·exact .inr h
theorem FitW.eq {t t':List Qu} {n:ByteArray} {x:Pc} {l:List Tm} (h:FitW t n x l) (e:bf t' n=bf t n):FitW t' n x l:=by
 unfold FitW at *
 cases hf:dK l n with
 | none=>rw [hf] at h;exact h.eq e
 | some a=>rw [hf] at h;exact h.eq e
def DrT (x:Pc):List Tm→Wk→Prop
 | [],_=>True
 | a :: l,w=>ez w.c.queues=true∧aV w.c.queues a.name=true∧DrT x l (bS w x a.name)
theorem su:∀(l:List Tm) (w:Wk) (x:Pc),ez w.c.queues=true→PStat w.c.queues x→Hg l→Rsl w.c.queues l→(∀n,aV w.c.queues n=true→FitW w.c.queues n x l)→
  WS w (eC x l w) x.proc (fun _=>True)∧(∀n,aV w.c.queues n=true→FitR (eC x l w).c.queues n x)∧DrT x l w
 | [],w,x,hv,_,_,_,hf=>⟨WS.refl hv _ _,fun n hn=>hf n hn,trivial⟩
 | a :: l,w,x,hv,hs,hnd,hr,hf=>by
  obtain ⟨h1,h2⟩:=List.pairwise_cons.1 hnd
  obtain ⟨ha1,ha2⟩:=hr a (by simp)
  have hfa:FitA w.c.queues a.name x a.am:=by
   have:=hf a.name ha1
   unfold FitW at this
   rw [dG,aW.2 rfl] at this
   exact this
  obtain ⟨k1,k2⟩:=xU hv ha1 hs ha2 hfa
  have ih:=su l (bS w x a.name) x k1.tp.v (hs.tp k1.tp) h2 ((show Rsl w.c.queues l from fun b hb=>hr b (by simp [hb])).tp k1.tp) (fun n hn=>by
   rw [k1.tp.hasE] at hn
   by_cases e:n=a.name
   ·subst e
    unfold FitW
    rw [jE.2 (fun b hb e=>h1 b hb e.symm)]
    exact k2
   ·have e1:=k1.oth n e hn
    have h3:=hf n hn
    unfold FitW at h3
    rw [dG,cg.2 (fun h=>e h.symm)] at h3
    exact FitW.eq (l:=l) h3 e1)
  exact ⟨(k1.mono fun _ _=>trivial).trans ih.1,fun n hn=>ih.2.1 n (by rw [k1.tp.hasE];exact hn),hv,ha1,ih.2.2⟩
theorem Ez {t:List Qu} {L:List Pr} (hc:∀r∈az t,r∈L) (hl:L.length≤8) {p:Pr} (hp:p∈L):(az t).length≤7∨p∈az t:=by
 by_cases h:p∈az t
 ·exact .inr h
 ·left
  have:=fx (l:=p :: az t) (m:=L) (List.nodup_cons.2 ⟨h,ec t⟩) fun r hr=>by
   rcases List.mem_cons.1 hr with rfl|hr
   ·exact hp
   ·exact hc r hr
  rw [List.length_cons] at this
  omega
theorem EA {t:List Qu} {L:List Pr} (hv:ez t=true) (hc:∀r∈az t,r∈L) (hl:L.length≤8) {p:Pr} (hp:p∈L) {n:ByteArray} (hn:aV t n=true) (hw:ap (bf t n) p=none) :
  aq (bf t n).holds p≠⟨0,0⟩∨(bf t n).holds.length+(bf t n).waits.length<8:=by
 by_cases h0:aq (bf t n).holds p=⟨0,0⟩
 ·right
  have hq:=dF hn
  have hd:=aG (dJ hv hq.1)
  have hno:=dN.1 hw
  have hnd:(du (bf t n).holds++bU (bf t n).waits).Nodup:=by
   rw [List.nodup_append]
   refine ⟨hd.hv.asc.imp fun {a b} (hab:fY a b) (e:a=b)=>by rw [e] at hab;exact bE b hab,hd.wnd,?_⟩
   intro u hu v hv2 e
   obtain ⟨x,hx,rfl⟩:=List.mem_map.1 hu
   obtain ⟨y,hy,rfl⟩:=List.mem_map.1 hv2
   have h1:=ku hd.hv.asc hx
   rw [e,(hd.wok y hy).2.2] at h1
   exact bz.1 (dR (hd.hv.fit x hx).2) h1.symm
  have hpn:p ∉ du (bf t n).holds++bU (bf t n).waits:=by
   intro hm
   rcases List.mem_append.1 hm with hm|hm
   ·obtain ⟨x,hx,rfl⟩:=List.mem_map.1 hm
    have h1:=ku hd.hv.asc hx
    rw [h0] at h1
    exact bz.1 (dR (hd.hv.fit x hx).2) h1.symm
   ·obtain ⟨y,hy,e⟩:=List.mem_map.1 hm
    exact hno y (by simp [hy]) e
  have hsub:∀r∈p :: (du (bf t n).holds++bU (bf t n).waits),r∈L:=by
   intro r hr
   rcases List.mem_cons.1 hr with rfl|hr
   ·exact hp
   ·refine hc r ?_
    unfold az
    rw [bw,gi]
    refine ⟨_,hq.1,?_⟩
    unfold eu
    rw [bw]
    rcases List.mem_append.1 hr with hr|hr
    ·exact List.mem_append.2 (.inl hr)
    ·refine List.mem_append.2 (.inr ?_)
     show r∈bU ((bf t n).convs++(bf t n).waits)
     unfold bU at hr ⊢
     rw [List.map_append]
     exact List.mem_append.2 (.inr hr)
  have:=fx (List.nodup_cons.2 ⟨hpn,hnd⟩) hsub
  rw [List.length_cons,List.length_append] at this
  unfold du bU at this
  rw [List.length_map,List.length_map] at this
  omega
 ·exact .inl h0
theorem uw (L:List Pr) (hl:L.length≤8):∀(l pre:List Tm) (w:Wk) (x:Pc),ez w.c.queues=true→PStat w.c.queues x→x.proc∈L→(∀r∈az w.c.queues,r∈L)→(0≤x.req.prio∧x.req.prio≤7)→Hg (pre++l)→Rsl w.c.queues l→
  (∀n,aV w.c.queues n=true→(dK l n=none→FitW w.c.queues n x (pre++l))∧(∀a,dK l n=some a→FitR w.c.queues n x))→
  WS w (df x.proc x.req.prio l w) x.proc (fun _=>True)∧(∀n,aV w.c.queues n=true→FitW (df x.proc x.req.prio l w).c.queues n x (pre++l))∧∀r∈az (df x.proc x.req.prio l w).c.queues,r∈L
 | [],pre,w,x,hv,_,_,hc,_,_,_,hf=>⟨WS.refl hv _ _,fun n hn=>(hf n hn).1 rfl,hc⟩
 | a :: l,pre,w,x,hv,hs,hpL,hc,hpr,hnd,hr,hf=>by
  have hnd2:Hg (a :: l):=(List.pairwise_append.1 hnd).2.1
  obtain ⟨h1,h2⟩:=List.pairwise_cons.1 hnd2
  obtain ⟨ha1,ha2⟩:=hr a (by simp)
  have hfr:FitR w.c.queues a.name x:=(hf a.name ha1).2 a (by rw [dG,aW.2 rfl];rfl)
  obtain ⟨e,hst,ho⟩:=Cu (a:=a) (prio:=x.req.prio) hv ha1 hs.vp hpr ha2 hfr.w (EA hv hc hl hpL ha1 hfr.w) (Ez hc hl hpL)
  have hws:=WS.take (ev:=(bQ w.c.queues x.proc a x.req.prio).2.1) hv hst
  have hc2:∀r∈az (bQ w.c.queues x.proc a x.req.prio).1,r∈L:=fun r hr2=>by
   rcases hst.sub r hr2 with e|e
   ·rw [e];exact hpL
   ·exact hc r e
  have hres:=hst.out.res
  have hfa:FitA (bQ w.c.queues x.proc a x.req.prio).1 a.name x a.am:=by
   unfold FitA jn
   rw [hres]
   have hh:=hfr.h
   rcases ho.own with ⟨k1,k2⟩|⟨k1,k2⟩
   ·rw [hh] at k1
    exact .inl ⟨k1,hfr.eq k2⟩
   ·rw [hh] at k1 k2
    rcases k2 with ⟨k3,k4⟩|⟨k3,k4⟩
    ·exact .inr ⟨k1,.inr ⟨k3,k4,fun y hy hyp=>ho.pr y hy hyp⟩⟩
    ·exact .inr ⟨k1,.inl ⟨k3,k4⟩⟩
  have happ:pre++a :: l=(pre++[a])++l:=by simp
  have hat:∀n,dK (pre++a :: l) n=some a∨n≠a.name:=by
   intro n
   by_cases e:n=a.name
   ·left
    subst e
    unfold dK
    rw [List.find?_append]
    have hpre:List.find? (fun b:Tm=>aT b.name a.name) pre=none:=by
     rw [List.find?_eq_none]
     intro b hb e2
     exact (List.pairwise_append.1 hnd).2.2 b hb a (by simp) (aW.1 e2)
    rw [hpre,List.find?_cons,aW.2 rfl]
    rfl
   ·exact .inr e
  have ih:=uw L hl l (pre++[a]) (w.take (bQ w.c.queues x.proc a x.req.prio).1 (bQ w.c.queues x.proc a x.req.prio).2.1) x hws.tp.v (hs.tp hws.tp) hpL hc2 hpr (by rw [←happ];exact hnd) ((show Rsl w.c.queues l from fun b hb=>hr b (by simp [hb])).tp hws.tp) (fun n hn=>by
   rw [hws.tp.hasE] at hn
   rw [←happ]
   by_cases e:n=a.name
   ·subst e
    refine ⟨fun _=>?_,fun b hb=>?_⟩
    ·unfold FitW
     rcases hat a.name with h3|h3
     ·rw [h3];exact hfa
     ·exact absurd rfl h3
    ·have:=zM hb
     exact absurd this.2.symm (h1 b this.1)
   ·have e1:=hws.oth n e hn
    have h3:=hf n hn
    rw [dG,cg.2 (fun h=>e h.symm),cond_false] at h3
    exact ⟨fun h4=>FitW.eq (h3.1 h4) e1,fun b hb=>(h3.2 b hb).eq e1⟩)
  rw [←happ] at ih
  exact ⟨(hws.mono fun _ _=>trivial).trans ih.1,fun n hn=>ih.2.1 n (by rw [hws.tp.hasE];exact hn),ih.2.2⟩
theorem EB {r:Rs} {l j:Am} (hj:aH r j=true) (hc:bq r j l=true) (hne:j≠l) (hl:l=⟨0,0⟩∨aH r l=true):cY l j=true:=by
 unfold cY
 rw [kt hj,decide_eq_false (fun e=>hne e.symm)]
 rcases hl with rfl|hl
 ·rfl
 ·rw [kt hl]
  have z:=dR hl
  have zj:=dR hj
  have hs:bb r=true:=by unfold aH at hj;rw [Bool.and_eq_true] at hj;exact hj.1
  unfold bq at hc
  rw [cE hj,cE hl,z,zj] at hc
  unfold aH at hl hj
  simp only [Bool.true_and,Bool.false_or,Bool.not_false] at hc ⊢
  rw [z,Bool.false_or]
  rcases da hs with ⟨hk,_⟩|⟨hk,_⟩
  ·rw [if_pos hk] at hc hl
   simp only [Bool.and_eq_true,fe] at hl
   rw [decide_eq_false (show ¬l.mode=0 by omega)]
   exact hc
  ·rw [if_neg (by omega)] at hc hl hj
   simp only [Bool.and_eq_true,decide_eq_true_eq] at hl hj hc
   rw [decide_eq_true hl.2.1.1]
   simp only [Bool.not_true,cond_false,decide_eq_true_eq]
   rcases Int.lt_or_eq_of_le hc with h|h
   ·exact h
   ·exfalso
    apply hne
    obtain ⟨lm,lu⟩:=l
    obtain ⟨jm,ju⟩:=j
    dsimp only at *
    rw [hl.2.1.1,hj.2.1.1,h]
theorem A6 {l:List En} (h:Ents l):∀e∈l,aw l e.name≠⟨0,0⟩:=by
 refine nV (P:=fun l=>∀e∈l,aw l e.name≠⟨0,0⟩) (fun e he=>absurd he (by simp)) ?_ l h
 intro l e _ he ih f hf
 have hu:∀a:Am,aZ a=true→a≠⟨0,0⟩:=fun a ha e=>by rw [e] at ha;exact absurd ha (by decide)
 rw [jz]
 rcases List.mem_append.1 hf with hf|hf
 ·cases aT e.name f.name with
  | true=>exact hu _ (nX he.gr).1
  | false=>exact ih f hf
 ·rw [List.mem_singleton] at hf
  subst hf
  rw [aW.2 rfl]
  exact hu _ (nX he.gr).1
theorem Cv {t:List Qu} {x:Pc} (hs:PStat t x):∀e∈x.led.entries,e.name∈gj t:=fun e he=>by
 obtain ⟨h1,_⟩:=hs.hf e.name (A6 hs.led.ents e he)
 obtain ⟨h2,h3⟩:=dF h1
 exact List.mem_map.2 ⟨_,h2,h3⟩
theorem Hh {t:List Qu} (hv:ez t=true) {n:ByteArray} (hn:aV t n=true):bJ n.toList=true:=by
 obtain ⟨h2,h3⟩:=dF hn
 have h4:=(aG (dJ hv h2)).res
 unfold mm Rs.key at h4
 rw [h3] at h4
 simp only [Bool.and_eq_true] at h4
 exact h4.1.1.1
structure GrP (x y:Pc):Prop where
 proc:y.proc=x.proc
 ents:∃m,y.led.entries=x.led.entries++m
 svs:y.led.saves=x.led.saves
theorem GrP.refl (x:Pc):GrP x x:=⟨rfl,⟨[],by simp⟩,rfl⟩
theorem GrP.trans {x y z:Pc} (h:GrP x y) (k:GrP y z):GrP x z:=by
 obtain ⟨h1,⟨m,h2⟩,h3⟩:=h
 obtain ⟨k1,⟨m',k2⟩,k3⟩:=k
 exact ⟨k1.trans h1,⟨m++m',by rw [k2,h2,List.append_assoc]⟩,k3.trans h3⟩
structure LedOf (t:List Qu) (x y:Pc):Prop where
 eq:y = { x with led:=y.led }
 stat:PStat t y
 gr:GrP x y
theorem LedOf.proc {t:List Qu} {x y:Pc} (h:LedOf t x y):y.proc=x.proc:=by rw [h.eq]
theorem Ju {w:Wk} {i:Nat} {x y:Pc} {n:ByteArray} {a:Am} (hv:ez w.c.queues=true) (hn:aV w.c.queues n=true) (hy:w.pc i=y) (hi:i<w.c.procs.length) (hl:LedOf w.c.queues x y) (hlh:iH y n=iH x n) (ha:aH (bf w.c.queues n).res a=true) (hf:FitA w.c.queues n x a)
  (hc:bq (bf w.c.queues n).res (aq (bf w.c.queues n).holds x.proc) a=true) :
  ∃y',iM w i x.proc n=w.setP i y'∧LedOf w.c.queues x y'∧FitR w.c.queues n y'∧∀m,m≠n→iH y' m=iH y m:=by
 have same:FitR w.c.queues n x→∃y',iM w i x.proc n=w.setP i y'∧LedOf w.c.queues x y'∧FitR w.c.queues n y'∧∀m,m≠n→iH y' m=iH y m:=by
  intro h
  have h1:aq (bf w.c.queues n).holds x.proc=aw (w.pc i).led.entries n:=by rw [hy];exact h.h.trans hlh.symm
  refine ⟨y,?_,hl,⟨?_,?_⟩,fun _ _=>rfl⟩
  ·unfold iM
   rw [decide_eq_true h1,cond_true]
   unfold Wk.setP
   have:w.c.procs.set i y=w.c.procs:=by
    apply List.ext_getElem
    ·simp
    ·intro j h1 h2
     rw [List.getElem_set]
     split
     ·next e =>
      subst e
      unfold Wk.pc at hy
      rw [←hy]
      simp [hi]
     ·rfl
   rw [this]
  ·rw [hl.proc];exact h.h.trans hlh.symm
  ·rw [hl.proc];exact h.w
 rcases hf with ⟨_,h⟩|⟨hc2,⟨h1,h2⟩|⟨h1,h2,_⟩⟩
 ·exact same h
 ·obtain ⟨j1,j2,_,j4⟩:=It (py hv hn) ha hc2 (by rw [←hlh];exact sr hl.stat n)
  have hne:aq (bf w.c.queues n).holds x.proc≠aw (w.pc i).led.entries n:=by rw [hy,h1,show aw y.led.entries n=iH x n from hlh];exact j4
  have hgr:cY (iH x n) (jn w.c.queues n x a)=true:=EB j1 j2 j4 (by rw [←hlh];exact sr hl.stat n)
  obtain ⟨e1,e2⟩:=Cg (g:=y.led) hl.stat.led (e:=⟨n,iH x n,jn w.c.queues n x a⟩) (Hh hv hn) (by show iH x n=aw y.led.entries n;exact hlh.symm) hgr (ns:=gj w.c.queues) (by unfold gj;rw [List.length_map];exact (cm hv).1) (Cv hl.stat) (by obtain ⟨h3,h4⟩:=dF hn;exact List.mem_map.2 ⟨_,h3,h4⟩)
  have hlhn:∀m,aw (y.led.entries++[(⟨n,iH x n,jn w.c.queues n x a⟩:En)]) m=bif aT n m then jn w.c.queues n x a else iH y m:=fun m=>jz _ _ _
  refine ⟨{ y with led:=⟨y.led.entries++[⟨n,iH x n,jn w.c.queues n x a⟩],y.led.saves⟩ },?_,⟨?_,?_,hl.gr.trans ⟨rfl,⟨_,rfl⟩,rfl⟩⟩,⟨?_,?_⟩,fun m hm=>?_⟩
  ·unfold iM
   rw [decide_eq_false hne,cond_false,hy,h1,show aw y.led.entries n=iH x n from hlh,e1]
  ·have:=hl.eq
   generalize y.led=g at *
   subst this
   rfl
  ·have hst:=hl.stat
   refine ⟨hst.vp,hst.cost,e2,hst.gen,fun m hm=>?_⟩
   have h5:iH { y with led:=⟨y.led.entries++[⟨n,iH x n,jn w.c.queues n x a⟩],y.led.saves⟩ } m=bif aT n m then jn w.c.queues n x a else iH y m:=hlhn m
   rw [h5] at hm ⊢
   cases he:aT n m with
   | true =>
    have:=aW.1 he
    subst this
    exact ⟨hn,j1⟩
   | false =>
    rw [he] at hm
    exact hst.hf m hm
  ·show aq (bf w.c.queues n).holds y.proc=aw _ n
   rw [hl.proc,h1,hlhn,aW.2 rfl]
   rfl
  ·show ap (bf w.c.queues n) y.proc=none
   rw [hl.proc]
   exact h2
  ·show aw _ m=_
   rw [hlhn,cg.2 (fun e=>hm e.symm)]
   rfl
 ·rw [h1,hc2] at hc
  cases hc
theorem oh {w:Wk} {i:Nat} (hi:i<w.c.procs.length) (x:Pc):(w.setP i x).pc i=x:=by
 unfold Wk.setP Wk.pc
 simp [hi]
theorem pz (w:Wk) (i:Nat) (x y:Pc):(w.setP i x).setP i y=w.setP i y:=by
 unfold Wk.setP
 simp
theorem LedOf.refl {t:List Qu} {x:Pc} (h:PStat t x):LedOf t x x:=⟨rfl,h,GrP.refl x⟩
theorem FitR.led {t:List Qu} {n:ByteArray} {x y:Pc} (h:FitR t n x) (hp:y.proc=x.proc) (hl:iH y n=iH x n):FitR t n y:=⟨by rw [hp,hl];exact h.h,by rw [hp];exact h.w⟩
def FinT (x:Pc) (i:Nat):List Tm→List Bool→Wk→Prop
 | a :: l,b :: bs,w=>ez w.c.queues=true∧aV w.c.queues a.name=true∧i<w.c.procs.length∧FinT x i l bs (bif b then iM w i x.proc a.name else bS w x a.name)
 | _,_,_=>True
theorem sw:∀(l:List Tm) (bs:List Bool) (w:Wk) (i:Nat) (x y:Pc),l.length=bs.length→ez w.c.queues=true→w.pc i=y→i<w.c.procs.length→PStat w.c.queues x→LedOf w.c.queues x y→(∀a∈l,iH y a.name=iH x a.name)→Hg l→Rsl w.c.queues l→
  (∀n,aV w.c.queues n=true→(∀a,dK l n=some a→FitA w.c.queues n x a.am)∧(dK l n=none→FitR w.c.queues n y))→
  (∀k (h:k<l.length),bs.getD k false=true→bq (bf w.c.queues l[k].name).res (aq (bf w.c.queues l[k].name).holds x.proc) l[k].am=true)→
  ∃y',TP w.c.queues (dd x i l bs w).c.queues x.proc∧(dd x i l bs w).c.procs=w.c.procs.set i y'∧(dd x i l bs w).c.now=w.c.now∧LedOf (dd x i l bs w).c.queues x y'∧(∀n,aV w.c.queues n=true→FitR (dd x i l bs w).c.queues n y')∧FinT x i l bs w
 | [],bs,w,i,x,y,_,hv,hy,hi,_,hl,_,_,_,hf,_=>by
  have e:dd x i [] bs w=w:=by cases bs <;> rfl
  rw [e]
  refine ⟨y,TP.refl hv _,?_,rfl,hl,fun n hn=>(hf n hn).2 rfl,by cases bs <;> trivial⟩
  apply List.ext_getElem
  ·simp
  ·intro j h1 h2
   rw [List.getElem_set]
   split
   ·next e =>
    subst e
    unfold Wk.pc at hy
    rw [←hy]
    simp [hi]
   ·rfl
 | a :: l,[],w,i,x,y,hlen,_,_,_,_,_,_,_,_,_,_=>by simp at hlen
 | a :: l,b :: bs,w,i,x,y,hlen,hv,hy,hi,hsx,hl,hlh,hnd,hr,hf,hc=>by
  obtain ⟨h1,h2⟩:=List.pairwise_cons.1 hnd
  obtain ⟨ha1,ha2⟩:=hr a (by simp)
  have hfa:FitA w.c.queues a.name x a.am:=(hf a.name ha1).1 a (by rw [dG,aW.2 rfl];rfl)
  have hr2:Rsl w.c.queues l:=fun b hb=>hr b (by simp [hb])
  have hat:∀n,n≠a.name→dK (a :: l) n=dK l n:=fun n hn=>by rw [dG,cg.2 (fun h=>hn h.symm)];rfl
  have hnone:dK l a.name=none:=jE.2 fun b hb e=>h1 b hb e.symm
  cases b with
  | true =>
   obtain ⟨y1,e1,k1,k2,k3⟩:=Ju hv ha1 hy hi hl (hlh a (by simp)) ha2 hfa (by have:=hc 0 (by simp) (by simp);simpa using this)
   have e:dd x i (a :: l) (true :: bs) w=dd x i l bs (w.setP i y1):=by
    show dd x i l bs (bif true then iM w i x.proc a.name else bS w x a.name)=_
    rw [cond_true,e1]
   rw [e]
   have ih:=sw l bs (w.setP i y1) i x y1 (by simpa using hlen) hv (oh hi y1) (by show i<(w.c.procs.set i y1).length;simpa using hi) hsx k1 (fun b hb=>by rw [k3 _ (fun e=>h1 b hb e.symm)];exact hlh b (by simp [hb])) h2 hr2
    (fun n hn=>by
     by_cases en:n=a.name
     ·subst en
      exact ⟨fun b hb=>(by rw [hnone] at hb;cases hb),fun _=>k2⟩
     ·have h3:=hf n hn
      rw [hat n en] at h3
      exact ⟨h3.1,fun h4=>(h3.2 h4).led (by rw [k1.proc,hl.proc]) (k3 n en)⟩)
    (fun k hk hb=>by
     have h5:=hc (k+1) (by simpa using hk) (by simpa using hb)
     simp only [List.getElem_cons_succ] at h5
     exact h5)
   obtain ⟨y',q1,q2,q3,q4,q5,q6⟩:=ih
   refine ⟨y',q1,?_,q3,q4,q5,hv,ha1,hi,by rw [cond_true,e1];exact q6⟩
   rw [q2]
   show (w.c.procs.set i y1).set i y'=_
   simp
  | false =>
   obtain ⟨k1,k2⟩:=xU hv ha1 hsx ha2 hfa
   have e:dd x i (a :: l) (false :: bs) w=dd x i l bs (bS w x a.name):=rfl
   rw [e]
   have ih:=sw l bs (bS w x a.name) i x y (by simpa using hlen) k1.tp.v (by unfold Wk.pc at hy ⊢;rw [k1.procs];exact hy) (by rw [k1.procs];exact hi) (hsx.tp k1.tp) ⟨hl.eq,hl.stat.tp k1.tp,hl.gr⟩ (fun b hb=>hlh b (by simp [hb])) h2 (hr2.tp k1.tp)
    (fun n hn=>by
     rw [k1.tp.hasE] at hn
     by_cases en:n=a.name
     ·subst en
      exact ⟨fun b hb=>(by rw [hnone] at hb;cases hb),fun _=>k2.led hl.proc (hlh a (by simp))⟩
     ·have h3:=hf n hn
      rw [hat n en] at h3
      have e1:=k1.oth n en hn
      exact ⟨fun b hb=>(h3.1 b hb).eq e1,fun h4=>(h3.2 h4).eq e1⟩)
    (fun k hk hb=>by
     have h5:=hc (k+1) (by simpa using hk) (by simpa using hb)
     simp only [List.getElem_cons_succ] at h5
     have hm:l[k]∈l:=List.getElem_mem hk
     rw [k1.oth l[k].name (fun e=>h1 _ hm e.symm) (hr2 _ hm).1]
     exact h5)
   obtain ⟨y',q1,q2,q3,q4,q5,q6⟩:=ih
   exact ⟨y',k1.tp.trans q1,by rw [q2,k1.procs],q3.trans k1.now,q4,fun n hn=>q5 n (by rw [k1.tp.hasE];exact hn),hv,ha1,hi,q6⟩
theorem sy (x:Ex) (L:List Tm):∀(n:Nat) (out:List Bool) (k:Nat),(ie x L n out).getD k false=true→out.getD k false=true
 | 0,_,_,h=>h
 | n+1,out,k,h=>by
  have h1:=sy x L n _ k h
  cases hb:out.getD n false with
  | false=>rw [hb] at h1;exact h1
  | true =>
   rw [hb,cond_true] at h1
   by_cases hk:k=n
   ·subst hk;exact hb
   ·rw [List.getD_eq_getElem?_getD,List.getElem?_set_ne (fun e=>hk e.symm),←List.getD_eq_getElem?_getD] at h1
    exact h1
theorem sC (x:Ex) (L:List Tm):∀(n:Nat) (out:List Bool),(ie x L n out).length=out.length
 | 0,_=>rfl
 | n+1,out=>by
  unfold ie
  rw [sC x L n]
  cases out.getD n false <;> simp
theorem ux (x:Ex) (set:List Bool):(cJ x set).length=(cP x).length:=by
 unfold cJ
 cases ew x set with
 | true=>rw [cond_true,sC];simp
 | false=>simp
theorem Cw {x:Ex} {set:List Bool} {k:Nat} (h:(cJ x set).getD k false=true):set.getD k false=true:=by
 unfold cJ at h
 cases hh:ew x set with
 | true =>
  rw [hh,cond_true] at h
  have h1:=sy x (cP x) _ _ k h
  rw [List.getD_eq_getElem?_getD,List.getElem?_map] at h1
  by_cases hk:k<(cP x).length
  ·rw [List.getElem?_range hk] at h1
   exact h1
  ·rw [List.getElem?_eq_none (by simpa using hk)] at h1
   cases h1
 | false =>
  rw [hh,cond_false,List.getD_eq_getElem?_getD] at h
  by_cases hk:k<(cP x).length
  ·rw [List.getElem?_replicate,if_pos hk] at h;cases h
  ·rw [List.getElem?_replicate,if_neg hk] at h;cases h
theorem Jv {x:Ex} (h:nE x=true):Hg (cP x):=by
 have h1:=(rr h).2.2
 unfold cP
 rw [h,cond_true]
 unfold nE at h
 simp only [Bool.and_eq_true,decide_eq_true_eq] at h
 exact h.2.2.2
theorem pA (x:Ex):Hg (cP x):=by
 cases h:nE x with
 | true=>exact Jv h
 | false=>rw [vj h];exact List.Pairwise.nil
structure CI (c:Cs):Prop where
 now:0≤c.now∧c.now≤1073741824
 tv:ez c.queues=true
 len:c.procs.length≤8
 asc:(c.procs.map (·.proc)).Pairwise fY
 cov:∀r∈az c.queues,r∈c.procs.map (·.proc)
 inv:∀x∈c.procs,PInv c.queues c.now x
theorem cd {w:Wk} {i:Nat} (hi:i<w.c.procs.length):w.pc i=w.c.procs[i]:=by unfold Wk.pc;simp [hi]
theorem xV {c:Cs} (h:CI c) {i j:Nat} (hi:i<c.procs.length) (hj:j<c.procs.length) (hij:i≠j):c.procs[i].proc≠c.procs[j].proc:=by
 intro e
 have hp:=List.pairwise_iff_getElem.1 h.asc
 rcases Nat.lt_or_gt_of_ne hij with hlt|hlt
 ·have:=hp i j (by simpa using hi) (by simpa using hj) hlt
  simp only [List.getElem_map] at this
  rw [e] at this
  exact bE _ this
 ·have:=hp j i (by simpa using hj) (by simpa using hi) hlt
  simp only [List.getElem_map] at this
  rw [e] at this
  exact bE _ this
theorem CI.upd {c c':Cs} (h:CI c) {i:Nat} (hi:i<c.procs.length) {y:Pc} (hp:c'.procs=c.procs.set i y) (hn:c'.now=c.now) (hyp:y.proc=c.procs[i].proc) (ht:TP c.queues c'.queues y.proc) (hy:PInv c'.queues c'.now y):CI c':=by
 have hm:c'.procs.map (·.proc)=c.procs.map (·.proc):=by
  rw [hp,List.map_set,hyp]
  apply List.ext_getElem
  ·simp
  ·intro j h1 h2
   rw [List.getElem_set]
   split
   ·next e=>subst e;simp
   ·rfl
 refine ⟨by rw [hn];exact h.now,ht.v,by rw [hp];simpa using h.len,by rw [hm];exact h.asc,fun r hr=>?_,fun x hx=>?_⟩
 ·rw [hm]
  rcases ht.sub r hr with e|e
  ·rw [e,hyp]
   exact List.mem_map.2 ⟨_,List.getElem_mem hi,rfl⟩
  ·exact h.cov r e
 ·rw [hp] at hx
  obtain ⟨j,hj,e⟩:=List.mem_iff_getElem.1 hx
  rw [List.getElem_set] at e
  have hj2:j<c.procs.length:=by simpa using hj
  split at e
  ·subst e;exact hy
  ·next hij =>
   subst e
   have h1:=h.inv _ (List.getElem_mem hj2)
   rw [←hn] at h1
   exact h1.tp ht (by rw [hyp];exact xV h hj2 hi (fun e=>hij e.symm))
def cR (l:List Pc):Nat:=(l.filter (·.waiting)).length
theorem uy {l:List Pc} {i:Nat} (hi:i<l.length) {y:Pc} (h1:l[i].waiting=true) (h2:y.waiting=false):cR (l.set i y)+1=cR l:=by
 unfold cR
 induction l generalizing i with
 | nil=>simp at hi
 | cons x l ih =>
  cases i with
  | zero =>
   have h1':x.waiting=true:=h1
   rw [List.set_cons_zero,List.filter_cons,List.filter_cons,if_neg (by rw [h2];simp),if_pos h1']
   rfl
  | succ i =>
   have:=ih (i:=i) (by simpa using hi) (by simpa using h1)
   rw [List.set_cons_succ,List.filter_cons,List.filter_cons]
   cases x.waiting with
   | true=>rw [if_pos rfl,if_pos rfl,List.length_cons,List.length_cons];omega
   | false=>rw [if_neg (by simp),if_neg (by simp)];exact this
theorem ol (l:List Pc):cR l≤l.length:=List.length_filter_le _ _
theorem xW {t:List Qu} {now:Int} {y:Pc} (hs:PStat t y) (hf:∀n,aV t n=true→FitR t n y):PInv t now { y with waiting:=false,req:=Rq.zero,since:=0 } :=
 ⟨⟨hs.vp,hs.cost,hs.led,hs.gen,hs.hf⟩,fun _=>⟨rfl,rfl,fun n hn=>⟨(hf n hn).h,(hf n hn).w⟩⟩,fun h=>by cases h⟩
theorem PInv.regen {t:List Qu} {now:Int} {y:Pc} (h:PInv t now y) (g:Int):PInv t now { y with gen:=bh g } :=
 ⟨⟨h.stat.vp,h.stat.cost,h.stat.led,by have:=nN (n:=g);show 0≤bh g∧bh g≤1073741824;omega,h.stat.hf⟩,fun hw=>by
  obtain ⟨h1,h2,h3⟩:=h.run hw
  exact ⟨h1,h2,fun n hn=>⟨(h3 n hn).h,(h3 n hn).w⟩⟩,fun hw=>by
  obtain ⟨h1,h2⟩:=h.wat hw
  refine ⟨⟨h1.rq,h1.rs,h1.sn⟩,fun n hn=>?_⟩
  have:=h2 n hn
  unfold FitW at this ⊢
  cases ha:dK (cP y.req.expr) n with
  | none=>rw [ha] at this;exact ⟨this.h,this.w⟩
  | some a =>
   rw [ha] at this
   rcases this with ⟨k1,k2⟩|k
   ·exact .inl ⟨k1,k2.h,k2.w⟩
   ·exact .inr k⟩
theorem wg {t:List Qu} {x:Ex} (h:iy t x=0):nE x=true∧Rsl t (cP x):=by
 unfold iy at h
 cases hv:nE x with
 | false=>rw [hv] at h;cases h
 | true =>
  rw [hv] at h
  exact ⟨rfl,uv.1 h⟩
def KW (l l':List Pc):Prop:=∀x∈l',x.waiting=true→x∈l
theorem KW.refl (l:List Pc):KW l l:=fun _ h _=>h
theorem KW.trans {a b c:List Pc} (h:KW a b) (k:KW b c):KW a c:=fun x hx hw=>h x (k x hx hw) hw
theorem KW.set {l:List Pc} {i:Nat} {y:Pc} (hy:y.waiting=false):KW l (l.set i y):=fun x hx hw=>by
 rcases List.mem_or_eq_of_mem_set hx with h|rfl
 ·exact h
 ·rw [hy] at hw;cases hw
def KG (l l':List Pc):Prop:=∀x∈l,∃x'∈l',GrP x x'
theorem KG.refl (l:List Pc):KG l l:=fun x h=>⟨x,h,GrP.refl x⟩
theorem KG.trans {a b c:List Pc} (h:KG a b) (k:KG b c):KG a c:=fun x hx=>by
 obtain ⟨y,hy,h1⟩:=h x hx
 obtain ⟨z,hz,h2⟩:=k y hy
 exact ⟨z,hz,h1.trans h2⟩
theorem KG.set {l:List Pc} {i:Nat} (hi:i<l.length) {y:Pc} (hy:GrP l[i] y):KG l (l.set i y):=fun x hx=>by
 obtain ⟨j,hj,e⟩:=List.mem_iff_getElem.1 hx
 by_cases hji:j=i
 ·subst hji
  exact ⟨y,List.mem_iff_getElem.2 ⟨j,by simpa using hj,by simp⟩,by rw [←e];exact hy⟩
 ·refine ⟨x,List.mem_iff_getElem.2 ⟨j,by simpa using hj,?_⟩,GrP.refl x⟩
  rw [List.getElem_set_ne (fun e2=>hji e2.symm)]
  exact e
structure KN (l l':List Pc):Prop where
 nw:∀x∈l,x.waiting=false→x∈l'
 gr:KG l l'
theorem KN.refl (l:List Pc):KN l l:=⟨fun _ h _=>h,KG.refl l⟩
theorem KN.trans {a b c:List Pc} (h:KN a b) (k:KN b c):KN a c:=⟨fun x hx hw=>k.nw x (h.nw x hx hw) hw,h.gr.trans k.gr⟩
theorem KN.set {l:List Pc} {i:Nat} (hi:i<l.length) (hw:l[i].waiting=true) {y:Pc} (hy:GrP l[i] y):KN l (l.set i y):=⟨fun x hx hxw=>by
 obtain ⟨j,hj,e⟩:=List.mem_iff_getElem.1 hx
 have hji:j≠i:=fun e2=>by subst e2;rw [e,hxw] at hw;cases hw
 refine List.mem_iff_getElem.2 ⟨j,by simpa using hj,?_⟩
 rw [List.getElem_set_ne (fun e2=>hji e2.symm)]
 exact e,KG.set hi hy⟩
theorem EC {w:Wk} {i:Nat} (h:CI w.c) (hi:i<w.c.procs.length) (hw:(w.pc i).waiting=true) :
  CI (jW w i).c∧cR (jW w i).c.procs+1=cR w.c.procs∧(jW w i).c.procs.length=w.c.procs.length∧(jW w i).c.now=w.c.now∧KW w.c.procs (jW w i).c.procs∧(jW w i).c.procs.map (·.proc)=w.c.procs.map (·.proc)∧KN w.c.procs (jW w i).c.procs∧gj (jW w i).c.queues=gj w.c.queues∧FinT (w.pc i) i (cP (w.pc i).req.expr) (cJ (w.pc i).req.expr (bC w.c.queues (w.pc i).proc (w.pc i).req.expr)) (w.note 2 (w.pc i).proc):=by
 have hpc:=cd hi
 have hinv:=h.inv _ (List.getElem_mem hi)
 rw [←hpc] at hinv
 obtain ⟨hwt,hfit⟩:=hinv.wat hw
 obtain ⟨hve,hrsl⟩:=wg hwt.rs
 obtain ⟨y',q1,q2,q3,q4,q5,q6⟩:=sw (cP (w.pc i).req.expr) (cJ (w.pc i).req.expr (bC w.c.queues (w.pc i).proc (w.pc i).req.expr)) (w.note 2 (w.pc i).proc) i (w.pc i) (w.pc i) (ux _ _).symm h.tv rfl hi hinv.stat (LedOf.refl hinv.stat) (fun _ _=>rfl) (pA _) hrsl
  (fun n hn=>by
   have:=hfit n hn
   unfold FitW at this
   exact ⟨fun a ha=>by rw [ha] at this;exact this,fun ha=>by rw [ha] at this;exact this⟩)
  (fun k hk hb=>by
   have h1:=Cw hb
   unfold bC at h1
   rw [List.getD_eq_getElem?_getD,List.getElem?_map,List.getElem?_eq_getElem hk] at h1
   have h2:(aV w.c.queues (cP (w.pc i).req.expr)[k].name && bq (bf w.c.queues (cP (w.pc i).req.expr)[k].name).res (aq (bf w.c.queues (cP (w.pc i).req.expr)[k].name).holds (w.pc i).proc) (cP (w.pc i).req.expr)[k].am)=true:=h1
   rw [Bool.and_eq_true] at h2
   exact h2.2)
 have e:∀g:Wk,dd (w.pc i) i (cP (w.pc i).req.expr) (cJ (w.pc i).req.expr (bC w.c.queues (w.pc i).proc (w.pc i).req.expr)) (w.note 2 (w.pc i).proc)=g→jW w i=be (el g i) i:=fun g hg=>by unfold jW;rw [hg]
 generalize hg:dd (w.pc i) i (cP (w.pc i).req.expr) (cJ (w.pc i).req.expr (bC w.c.queues (w.pc i).proc (w.pc i).req.expr)) (w.note 2 (w.pc i).proc)=g at *
 rw [e g rfl]
 have q2':g.c.procs=w.c.procs.set i y':=q2
 have hgi:i<g.c.procs.length:=by rw [q2'];simpa using hi
 have hgp:g.pc i=y':=by rw [cd hgi];simp [q2']
 have hproc:y'.proc=w.c.procs[i].proc:=by rw [q4.proc,hpc]
 have e2:be (el g i) i=g.setP i { y' with waiting:=false,req:=Rq.zero,since:=0,gen:=bh y'.gen }:=by
  unfold be el
  rw [hgp,oh hgi,pz]
 rw [e2]
 have hfin:PInv g.c.queues g.c.now { y' with waiting:=false,req:=Rq.zero,since:=0,gen:=bh y'.gen } :=
  (xW q4.stat (fun n hn=>q5 n (by have:=q1.hasE n;rw [this] at hn;exact hn)):PInv g.c.queues g.c.now { y' with waiting:=false,req:=Rq.zero,since:=0 }).regen y'.gen
 have hps:(g.setP i { y' with waiting:=false,req:=Rq.zero,since:=0,gen:=bh y'.gen }).c.procs=w.c.procs.set i { y' with waiting:=false,req:=Rq.zero,since:=0,gen:=bh y'.gen }:=by
  show g.c.procs.set i _=_
  rw [q2',List.set_set]
 have hn:g.c.now=w.c.now:=q3
 have hmap:(w.c.procs.set i { y' with waiting:=false,req:=Rq.zero,since:=0,gen:=bh y'.gen }).map (·.proc)=w.c.procs.map (·.proc):=by
  rw [List.map_set]
  apply List.ext_getElem
  ·simp
  ·intro j h1 h2
   rw [List.getElem_set]
   split
   ·next e=>subst e;simp [hproc]
   ·rfl
 refine ⟨h.upd hi hps hn hproc ?_ hfin,?_,by rw [hps];simp,hn,by rw [hps];exact KW.set rfl,by rw [hps];exact hmap,by rw [hps];exact KN.set hi (by rw [←hpc];exact hw) (by rw [←hpc];exact ⟨q4.gr.proc,q4.gr.ents,q4.gr.svs⟩),q1.nm,q6⟩
 ·have:y'.proc=(w.pc i).proc:=q4.proc
  show TP w.c.queues g.c.queues y'.proc
  rw [this]
  exact q1
 ·rw [hps]
  exact uy hi (by rw [←hpc];exact hw) rfl
theorem jF {t:List Qu}:∀{l:List Pc} {k i:Nat},eO t k l=some i→∃j,∃h:j<l.length,i=k+j∧dY t l[j]=true
 | [],_,_,h=>by cases h
 | x :: l,k,i,h=>by
  unfold eO at h
  cases hs:dY t x with
  | true =>
   rw [hs,cond_true] at h
   injection h with h
   exact ⟨0,by simp,by omega,hs⟩
  | false =>
   rw [hs,cond_false] at h
   obtain ⟨j,hj,e,h2⟩:=jF h
   exact ⟨j+1,by simpa using hj,by omega,by simpa using h2⟩
theorem sD {t:List Qu}:∀{l:List Pc} {k:Nat},eO t k l=none→∀x∈l,dY t x=false
 | [],_,_,x,hx=>absurd hx (by simp)
 | y :: l,k,h,x,hx=>by
  unfold eO at h
  cases hs:dY t y with
  | true=>rw [hs] at h;cases h
  | false =>
   rw [hs,cond_false] at h
   rcases List.mem_cons.1 hx with rfl|hx
   ·exact hs
   ·exact sD h x hx
theorem lV {l:List Pc} {i:Nat} (hi:i<l.length) (h:l[i].waiting=true):0<cR l:=by
 unfold cR
 exact List.length_pos_of_mem (List.mem_filter.2 ⟨List.getElem_mem hi,h⟩)
theorem sE:∀(n:Nat) (w:Wk),CI w.c→cR w.c.procs≤n→CI (aU n w).c∧(∀x∈(aU n w).c.procs,dY (aU n w).c.queues x=false)∧(aU n w).c.procs.map (·.proc)=w.c.procs.map (·.proc)∧(aU n w).c.now=w.c.now∧cR (aU n w).c.procs≤cR w.c.procs∧KW w.c.procs (aU n w).c.procs∧KN w.c.procs (aU n w).c.procs∧gj (aU n w).c.queues=gj w.c.queues
 | 0,w,h,hn=>by
  refine ⟨h,fun x hx=>?_,rfl,rfl,Nat.le_refl _,KW.refl _,KN.refl _,rfl⟩
  cases hw:x.waiting with
  | false=>unfold dY;rw [hw];rfl
  | true =>
   obtain ⟨i,hi,e⟩:=List.mem_iff_getElem.1 hx
   have:=lV hi (by rw [e];exact hw)
   have hn':cR w.c.procs≤0:=hn
   have this':0<cR w.c.procs:=this
   omega
 | n+1,w,h,hn=>by
  unfold aU
  cases hs:eO w.c.queues 0 w.c.procs with
  | none=>exact ⟨h,sD hs,rfl,rfl,Nat.le_refl _,KW.refl _,KN.refl _,rfl⟩
  | some i =>
   obtain ⟨j,hj,e,h2⟩:=jF hs
   have e':i=j:=by omega
   subst e'
   have hwt:(w.pc i).waiting=true:=by
    rw [cd hj]
    unfold dY at h2
    rw [Bool.and_eq_true] at h2
    exact h2.1
   obtain ⟨k1,k2,k3,k4,k5,k6,k7,k8,_⟩:=EC h hj hwt
   obtain ⟨l1,l2,l3,l4,l5,l6,l7,l8⟩:=sE n (jW w i) k1 (by omega)
   exact ⟨l1,l2,l3.trans k6,l4.trans k4,Nat.le_trans l5 (by omega),k5.trans l6,k7.trans l7,l8.trans k8⟩
theorem lW {w:Wk} (h:CI w.c):CI (bX w).c∧(∀x∈(bX w).c.procs,dY (bX w).c.queues x=false)∧(bX w).c.procs.map (·.proc)=w.c.procs.map (·.proc)∧(bX w).c.now=w.c.now∧cR (bX w).c.procs≤cR w.c.procs∧KW w.c.procs (bX w).c.procs∧KN w.c.procs (bX w).c.procs∧gj (bX w).c.queues=gj w.c.queues :=
 sE _ w h (ol _)
structure Kp (w w':Wk):Prop where
 kw:KW w.c.procs w'.c.procs
 now:w'.c.now=w.c.now
 pr:w'.c.procs.map (·.proc)=w.c.procs.map (·.proc)
 nm:gj w'.c.queues=gj w.c.queues
theorem Kp.trans {a b c:Wk} (h:Kp a b) (k:Kp b c):Kp a c:=⟨h.kw.trans k.kw,k.now.trans h.now,k.pr.trans h.pr,k.nm.trans h.nm⟩
theorem Kp.len {a b:Wk} (h:Kp a b):b.c.procs.length=a.c.procs.length:=by have:=congrArg List.length h.pr;simpa using this
theorem jc {w:Wk} (h:CI w.c):CI (bX w).c∧(∀x∈(bX w).c.procs,dY (bX w).c.queues x=false)∧Kp w (bX w):=by
 obtain ⟨h1,h2,h3,h4,_,h6,_,h8⟩:=lW h
 exact ⟨h1,h2,h6,h4,h3,h8⟩
theorem lX {w:Wk} (h:CI w.c):KN w.c.procs (bX w).c.procs:=(lW h).2.2.2.2.2.2.1
def KO (p:Pr) (l l':List Pc):Prop:=∀x∈l,x.proc≠p→∃x'∈l',GrP x x'
theorem KO.then {p:Pr} {a b c:List Pc} (h:KO p a b) (k:KG b c):KO p a c:=fun x hx hp=>by
 obtain ⟨y,hy,h1⟩:=h x hx hp
 obtain ⟨z,hz,h2⟩:=k y hy
 exact ⟨z,hz,h1.trans h2⟩
theorem KO.pre {p:Pr} {a b c:List Pc} (h:KG a b) (k:KO p b c):KO p a c:=fun x hx hp=>by
 obtain ⟨y,hy,h1⟩:=h x hx
 obtain ⟨z,hz,h2⟩:=k y hy (by rw [h1.proc];exact hp)
 exact ⟨z,hz,h1.trans h2⟩
theorem KO.set {p:Pr} {l:List Pc} {i:Nat} (hi:i<l.length) (hp:l[i].proc=p) (y:Pc):KO p l (l.set i y):=fun x hx hxp=>by
 obtain ⟨j,hj,e⟩:=List.mem_iff_getElem.1 hx
 have hji:j≠i:=fun e2=>by subst e2;rw [e] at hp;exact hxp hp
 refine ⟨x,List.mem_iff_getElem.2 ⟨j,by simpa using hj,?_⟩,GrP.refl x⟩
 rw [List.getElem_set_ne (fun e2=>hji e2.symm)]
 exact e
theorem GrP.led {x y:Pc} (hp:y.proc=x.proc) (hl:y.led=x.led):GrP x y:=⟨hp,⟨[],by rw [hl];simp⟩,by rw [hl]⟩
theorem Hi {w:Wk} {i:Nat} (hi:i<w.c.procs.length):KG w.c.procs (be w i).c.procs:=by
 have hps:(be w i).c.procs=w.c.procs.set i { w.pc i with gen:=bh (w.pc i).gen }:=rfl
 rw [hps]
 exact KG.set hi (GrP.led (by rw [cd hi]) (by rw [cd hi]))
theorem fE {l:List Pc} {i:Nat} (hi:i<l.length) {y:Pc} (hp:y.proc=l[i].proc):(l.set i y).map (·.proc)=l.map (·.proc):=by
 rw [List.map_set]
 apply List.ext_getElem
 ·simp
 ·intro j h1 h2
  rw [List.getElem_set]
  split
  ·next e=>subst e;simp [hp]
  ·rfl
theorem gt {w:Wk} {i:Nat} (h:CI w.c) (hi:i<w.c.procs.length) (hw:(w.pc i).waiting=true) :
  CI (ay w i).c∧cR (ay w i).c.procs+1=cR w.c.procs∧Kp w (ay w i)∧(ay w i).c.procs=w.c.procs.set i { w.pc i with waiting:=false,req:=Rq.zero,since:=0 }∧∀n,aV (ay w i).c.queues n=true→FitR (ay w i).c.queues n (w.pc i):=by
 have hpc:=cd hi
 have hinv:=h.inv _ (List.getElem_mem hi)
 rw [←hpc] at hinv
 obtain ⟨hwt,hfit⟩:=hinv.wat hw
 obtain ⟨hve,hrsl⟩:=wg hwt.rs
 obtain ⟨hws,hfr,hdt⟩:=su (cP (w.pc i).req.expr) w (w.pc i) h.tv hinv.stat (pA _) hrsl hfit
 have e:ay w i=el (eC (w.pc i) (cP (w.pc i).req.expr) w) i:=rfl
 generalize hg:eC (w.pc i) (cP (w.pc i).req.expr) w=g at *
 rw [e]
 have hgi:i<g.c.procs.length:=by rw [hws.procs];exact hi
 have hgp:g.pc i=w.pc i:=by unfold Wk.pc;rw [hws.procs]
 have hps:(el g i).c.procs=w.c.procs.set i { w.pc i with waiting:=false,req:=Rq.zero,since:=0 }:=by
  unfold el Wk.setP
  rw [hgp]
  show g.c.procs.set i _=_
  rw [hws.procs]
 have hfin:PInv g.c.queues g.c.now { w.pc i with waiting:=false,req:=Rq.zero,since:=0 }:=xW (hinv.stat.tp hws.tp) fun n hn=>hfr n (by rw [hws.tp.hasE] at hn;exact hn)
 refine ⟨h.upd (c':=(el g i).c) hi hps hws.now (by rw [hpc]) hws.tp hfin,?_,⟨by rw [hps];exact KW.set rfl,hws.now,by rw [hps];exact fE hi (by rw [hpc]),hws.tp.nm⟩,hps,fun n hn=>hfr n (by
  have h5:aV g.c.queues n=true:=hn
  rw [hws.tp.hasE] at h5
  exact h5)⟩
 rw [hps]
 exact uy hi (by rw [←hpc];exact hw) rfl
theorem lY {w:Wk} {i:Nat} (h:CI w.c) (hi:i<w.c.procs.length) (hw:(w.pc i).waiting=false):CI (be w i).c∧Kp w (be w i)∧cR (be w i).c.procs=cR w.c.procs:=by
 have hpc:=cd hi
 have hinv:=h.inv _ (List.getElem_mem hi)
 rw [←hpc] at hinv
 have hps:(be w i).c.procs=w.c.procs.set i { w.pc i with gen:=bh (w.pc i).gen }:=rfl
 refine ⟨h.upd (c':=(be w i).c) hi hps rfl (by rw [hpc]) (TP.refl h.tv _) (hinv.regen _),⟨by rw [hps];exact KW.set hw,rfl,by rw [hps];exact fE hi (by rw [hpc]),rfl⟩,?_⟩
 rw [hps]
 unfold cR
 have gen:∀(l:List Pc) (i:Nat) (y:Pc),(∀h:i<l.length,l[i].waiting=y.waiting)→((l.set i y).filter (·.waiting)).length=(l.filter (·.waiting)).length:=by
  intro l
  induction l with
  | nil=>intro i y _;rfl
  | cons x l ih =>
   intro i y hxy
   cases i with
   | zero =>
    have:x.waiting=y.waiting:=hxy (by simp)
    rw [List.set_cons_zero,List.filter_cons,List.filter_cons,this]
    cases y.waiting <;> rfl
   | succ i =>
    have:=ih i y (fun h=>by have:=hxy (by simpa using h);simpa using this)
    rw [List.set_cons_succ,List.filter_cons,List.filter_cons]
    cases x.waiting with
    | true=>rw [if_pos rfl,if_pos rfl,List.length_cons,List.length_cons,this]
    | false=>rw [if_neg (by simp),if_neg (by simp),this]
 exact gen _ _ _ fun h=>by rw [←hpc]
theorem mT {w:Wk} {i:Nat} (h:CI w.c) (hi:i<w.c.procs.length) (hw:(w.pc i).waiting=true):DrT (w.pc i) (cP (w.pc i).req.expr) w:=by
 have hpc:=cd hi
 have hinv:=h.inv _ (List.getElem_mem hi)
 rw [←hpc] at hinv
 obtain ⟨hwt,hfit⟩:=hinv.wat hw
 obtain ⟨hve,hrsl⟩:=wg hwt.rs
 exact (su (cP (w.pc i).req.expr) w (w.pc i) h.tv hinv.stat (pA _) hrsl hfit).2.2
def Jw (w:Wk) (i:Nat) (r:Rq):Wk:=be (w.setP i { w.pc i with waiting:=true,req:=r,since:=w.c.now }) i
def Db (w:Wk) (i:Nat) (r:Rq):Wk:=df (w.pc i).proc r.prio (cP r.expr) (Jw w i r)
theorem qr {w:Wk} {i:Nat} {r:Rq} (h:CI w.c) (hi:i<w.c.procs.length) (hw:(w.pc i).waiting=false) (hq:qL r=true) (hr:iy w.c.queues r.expr=0) :
  CI (Db w i r).c∧(Db w i r).c.procs=w.c.procs.set i { w.pc i with waiting:=true,req:=r,since:=w.c.now,gen:=bh (w.pc i).gen }∧(Db w i r).c.now=w.c.now∧gj (Db w i r).c.queues=gj w.c.queues:=by
 have hpc:=cd hi
 unfold Db Jw
 have hinv:=h.inv _ (List.getElem_mem hi)
 rw [←hpc] at hinv
 obtain ⟨_,_,hrun⟩:=hinv.run hw
 obtain ⟨hve,hrsl⟩:=wg hr
 have hx:be (w.setP i { w.pc i with waiting:=true,req:=r,since:=w.c.now }) i=w.setP i { w.pc i with waiting:=true,req:=r,since:=w.c.now,gen:=bh (w.pc i).gen }:=by
  unfold be
  rw [oh hi,pz]
 rw [hx]
 have hst:PStat w.c.queues { w.pc i with waiting:=true,req:=r,since:=w.c.now,gen:=bh (w.pc i).gen }:=⟨hinv.stat.vp,hinv.stat.cost,hinv.stat.led,by have:=nN (n:=(w.pc i).gen);show 0≤bh (w.pc i).gen∧bh (w.pc i).gen≤1073741824;omega,hinv.stat.hf⟩
 have hprio:0≤r.prio∧r.prio≤7:=by unfold qL at hq;simp only [Bool.and_eq_true,decide_eq_true_eq] at hq;exact ⟨hq.1.1.1.2,hq.1.1.2⟩
 obtain ⟨hws,hfw,_⟩:=uw (w.c.procs.map (fun x:Pc=>x.proc)) (by simpa using h.len) (cP r.expr) [] (w.setP i { w.pc i with waiting:=true,req:=r,since:=w.c.now,gen:=bh (w.pc i).gen }) { w.pc i with waiting:=true,req:=r,since:=w.c.now,gen:=bh (w.pc i).gen } h.tv hst (List.mem_map.2 ⟨_,List.getElem_mem hi,by rw [←hpc]⟩) h.cov hprio (pA _) hrsl
  (fun n hn=>by
   have h1:FitR w.c.queues n { w.pc i with waiting:=true,req:=r,since:=w.c.now,gen:=bh (w.pc i).gen }:=(hrun n hn).led rfl rfl
   refine ⟨fun h2=>?_,fun a _=>h1⟩
   unfold FitW
   rw [List.nil_append,h2]
   exact h1)
 rw [List.nil_append] at hfw
 have e:df (w.pc i).proc r.prio (cP r.expr) (w.setP i { w.pc i with waiting:=true,req:=r,since:=w.c.now,gen:=bh (w.pc i).gen })=df ({ w.pc i with waiting:=true,req:=r,since:=w.c.now,gen:=bh (w.pc i).gen }:Pc).proc ({ w.pc i with waiting:=true,req:=r,since:=w.c.now,gen:=bh (w.pc i).gen }:Pc).req.prio (cP r.expr) (w.setP i { w.pc i with waiting:=true,req:=r,since:=w.c.now,gen:=bh (w.pc i).gen }):=rfl
 rw [e]
 generalize df ({ w.pc i with waiting:=true,req:=r,since:=w.c.now,gen:=bh (w.pc i).gen }:Pc).proc ({ w.pc i with waiting:=true,req:=r,since:=w.c.now,gen:=bh (w.pc i).gen }:Pc).req.prio (cP r.expr) (w.setP i { w.pc i with waiting:=true,req:=r,since:=w.c.now,gen:=bh (w.pc i).gen })=g at *
 have hps:g.c.procs=w.c.procs.set i { w.pc i with waiting:=true,req:=r,since:=w.c.now,gen:=bh (w.pc i).gen }:=hws.procs
 have hnow:g.c.now=w.c.now:=hws.now
 have hpv:PInv g.c.queues g.c.now { w.pc i with waiting:=true,req:=r,since:=w.c.now,gen:=bh (w.pc i).gen }:=by
  refine ⟨hst.tp hws.tp,fun hf=>(by cases hf),fun _=>⟨⟨hq,?_,?_⟩,fun n hn=>?_⟩⟩
  ·rw [AX hws.tp];exact hr
  ·rw [hnow];exact ⟨h.now.1,Int.le_refl _⟩
  ·exact hfw n (by rw [hws.tp.hasE] at hn;exact hn)
 have hci:=h.upd (c':=g.c) hi hps hnow (by rw [hpc]) hws.tp hpv
 exact ⟨hci,hps,hnow,hws.tp.nm⟩
theorem zN {w:Wk} {i:Nat} {r:Rq} (h:CI w.c) (hi:i<w.c.procs.length) (he:(cL w i r).2=0) :
  CI (cL w i r).1.c∧(∀x∈(cL w i r).1.c.procs,dY (cL w i r).1.c.queues x=false)∧(cL w i r).1.c.now=w.c.now∧(cL w i r).1.c.procs.map (·.proc)=w.c.procs.map (·.proc)∧(∀x∈(cL w i r).1.c.procs,x.waiting=true→x∈w.c.procs∨(x = { w.pc i with waiting:=true,req:=r,since:=w.c.now,gen:=bh (w.pc i).gen }))∧KG w.c.procs (cL w i r).1.c.procs∧gj (cL w i r).1.c.queues=gj w.c.queues:=by
 unfold cL at he ⊢
 cases hw:(w.pc i).waiting with
 | true=>rw [hw] at he;simp at he
 | false =>
  rw [hw] at he
  simp only [cond_false] at he ⊢
  cases hq:qL r with
  | false=>rw [hq] at he;simp at he
  | true =>
   rw [hq] at he
   simp only [Bool.not_true,cond_false] at he ⊢
   by_cases hr:iy w.c.queues r.expr=0
   ·rw [decide_eq_true hr]
    simp only [Bool.not_true,cond_false]
    have hpc:=cd hi
    obtain ⟨hci,hps,hnow,hnm⟩:=qr h hi hw hq hr
    have e:df (w.pc i).proc r.prio (cP r.expr) (be (w.setP i { w.pc i with waiting:=true,req:=r,since:=w.c.now }) i)=Db w i r:=rfl
    rw [e]
    generalize Db w i r=g at *
    obtain ⟨k1,k2,k3⟩:=jc hci
    refine ⟨k1,k2,k3.now.trans hnow,k3.pr.trans (by rw [hps];exact fE hi (by rw [hpc])),fun x hx hxw=>?_,KG.trans (by rw [hps];exact KG.set hi (GrP.led (by rw [hpc]) (by rw [hpc]))) (lX hci).gr,k3.nm.trans hnm⟩
    have h5:=k3.kw x hx hxw
    rw [hps] at h5
    rcases List.mem_or_eq_of_mem_set h5 with h6|rfl
    ·exact .inl h6
    ·exact .inr rfl
   ·rw [decide_eq_false hr] at he
    simp only [Bool.not_false,cond_true] at he
    exact absurd he hr
theorem Cx {g:Lg} (h:Ld g) {n:ByteArray} (hn:aw g.entries n≠⟨0,0⟩):(kv g n).1=ia g n:=by
 have hne:(ia g n).entries.length≠g.entries.length:=by
  intro e
  have h1:g.entries.filter (oth n)=g.entries:=List.Sublist.eq_of_length List.filter_sublist e
  have h2:=jB n n g.entries
  rw [h1,if_pos rfl] at h2
  exact hn h2
 unfold kv
 rw [f5.2 h,decide_eq_false hne]
 rfl
def qM (w:Wk) (i:Nat) (n:ByteArray):Wk:=be ((eX w (w.pc i).proc ⟨n,⟨0,0⟩⟩).setP i { w.pc i with led:=(kv (w.pc i).led n).1 }) i
theorem qs {w:Wk} {i:Nat} {n:ByteArray} (h:CI w.c) (hi:i<w.c.procs.length) (hw:(w.pc i).waiting=false) (h0:aw (w.pc i).led.entries n≠⟨0,0⟩) :
  CI (qM w i n).c∧(qM w i n).c.procs=w.c.procs.set i { w.pc i with led:=ia (w.pc i).led n,gen:=bh (w.pc i).gen }∧(qM w i n).c.now=w.c.now∧gj (qM w i n).c.queues=gj w.c.queues:=by
 have hpc:=cd hi
 unfold qM
 have hinv:=h.inv _ (List.getElem_mem hi)
 rw [←hpc] at hinv
 obtain ⟨hrq,hsn,hrun⟩:=hinv.run hw
 obtain ⟨hn,hfit⟩:=hinv.stat.hf n h0
 have hfr:=hrun n hn
 have hcov:bq (bf w.c.queues n).res (aq (bf w.c.queues n).holds (w.pc i).proc) ⟨0,0⟩=true:=by
  rw [hfr.h]
  have p0:cQ (bf w.c.queues n).res ⟨0,0⟩=true:=by unfold cQ aO;rw [py h.tv hn];rfl
  unfold bq
  rw [cE hfit,p0]
  rfl
 obtain ⟨_,hst,k1,k2⟩:=pu (p:=(w.pc i).proc) (a:=⟨n,⟨0,0⟩⟩) h.tv hn (by rw [hfr.h];exact h0) hfr.w hcov
 have hws:WS w (eX w (w.pc i).proc ⟨n,⟨0,0⟩⟩) (w.pc i).proc (· = n):=WS.take h.tv hst
 generalize hg:eX w (w.pc i).proc ⟨n,⟨0,0⟩⟩=g at *
 have hgq:g.c.queues=(cn w.c.queues (w.pc i).proc ⟨n,⟨0,0⟩⟩).1:=by rw [←hg];rfl
 rw [←hgq] at k1 k2
 have hgi:i<g.c.procs.length:=by rw [hws.procs];exact hi
 have hgp:g.pc i=w.pc i:=by unfold Wk.pc;rw [hws.procs]
 have hdr:=Cx hinv.stat.led h0
 have hx:be (g.setP i { w.pc i with led:=(kv (w.pc i).led n).1 }) i=g.setP i { w.pc i with led:=ia (w.pc i).led n,gen:=bh (w.pc i).gen }:=by
  unfold be
  rw [oh hgi,pz,hdr]
 rw [hx]
 have hlh:∀m,iH { w.pc i with led:=ia (w.pc i).led n,gen:=bh (w.pc i).gen } m=if m=n then ⟨0,0⟩ else iH (w.pc i) m:=fun m=>jB n m _
 have hps:(g.setP i { w.pc i with led:=ia (w.pc i).led n,gen:=bh (w.pc i).gen }).c.procs=w.c.procs.set i { w.pc i with led:=ia (w.pc i).led n,gen:=bh (w.pc i).gen }:=by
  show g.c.procs.set i _=_
  rw [hws.procs]
 have hpv:PInv g.c.queues g.c.now { w.pc i with led:=ia (w.pc i).led n,gen:=bh (w.pc i).gen }:=by
  refine ⟨⟨hinv.stat.vp,hinv.stat.cost,GU hinv.stat.led n,by have:=nN (n:=(w.pc i).gen);show 0≤bh (w.pc i).gen∧bh (w.pc i).gen≤1073741824;omega,fun m hm=>?_⟩,fun _=>⟨hrq,hsn,fun m hm=>?_⟩,fun hf=>by
   have:(w.pc i).waiting=true:=hf
   rw [hw] at this
   cases this⟩
  ·rw [hlh] at hm ⊢
   by_cases e:m=n
   ·rw [if_pos e] at hm;exact absurd rfl hm
   ·rw [if_neg e] at hm ⊢
    exact (hinv.stat.tp hws.tp).hf m hm
  ·rw [hws.tp.hasE] at hm
   by_cases e:m=n
   ·subst e
    exact ⟨by rw [hlh,if_pos rfl];exact k1,k2⟩
   ·have e1:=hws.oth m e hm
    exact ((hrun m hm).eq e1).led rfl (by rw [hlh,if_neg e])
 have hci:=h.upd (c':=(g.setP i { w.pc i with led:=ia (w.pc i).led n,gen:=bh (w.pc i).gen }).c) hi hps hws.now (by rw [hpc]) hws.tp hpv
 exact ⟨hci,hps,hws.now,hws.tp.nm⟩
theorem zO {w:Wk} {i:Nat} {n:ByteArray} (h:CI w.c) (hi:i<w.c.procs.length) (he:(dZ w i n).2=0) :
  CI (dZ w i n).1.c∧(∀x∈(dZ w i n).1.c.procs,dY (dZ w i n).1.c.queues x=false)∧Kp w (dZ w i n).1∧KO (w.pc i).proc w.c.procs (dZ w i n).1.c.procs:=by
 unfold dZ at he ⊢
 cases hw:(w.pc i).waiting with
 | true=>rw [hw] at he;simp at he
 | false =>
  rw [hw] at he
  simp only [cond_false] at he ⊢
  by_cases h0:aw (w.pc i).led.entries n=⟨0,0⟩
  ·rw [decide_eq_true h0] at he;simp at he
  ·rw [decide_eq_false h0]
   simp only [cond_false]
   have hpc:=cd hi
   obtain ⟨hci,hps,hnow,hnm⟩:=qs h hi hw h0
   have e:be ((eX w (w.pc i).proc ⟨n,⟨0,0⟩⟩).setP i { (eX w (w.pc i).proc ⟨n,⟨0,0⟩⟩).pc i with led:=(kv ((eX w (w.pc i).proc ⟨n,⟨0,0⟩⟩).pc i).led n).1 }) i=qM w i n:=rfl
   rw [e]
   generalize qM w i n=g at *
   obtain ⟨q1,q2,q3⟩:=jc hci
   have hk:Kp w g:=⟨by rw [hps];exact KW.set hw,hnow,by rw [hps];exact fE hi (by rw [hpc]),hnm⟩
   exact ⟨q1,q2,hk.trans q3,KO.then (by rw [hps];exact KO.set hi (by rw [hpc]) _) (lX hci).gr⟩
end Go.Proofs.YtdaajdflefnjfaaGreat
