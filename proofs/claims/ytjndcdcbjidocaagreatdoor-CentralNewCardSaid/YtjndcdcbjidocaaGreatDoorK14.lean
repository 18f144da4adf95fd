/- Part 14 of 35 of the proof of centralNew_holds (no condition). -/
import Derived.Test.YtjndcdcbjidocaaGreatDoorK13
set_option linter.unusedVariables false
set_option linter.unusedSimpArgs false
set_option maxRecDepth 100000
set_option maxHeartbeats 64000000
namespace Go.Proofs.YtjndcdcbjidocaaGreatDoor
open Go.RowKit Go.Proofs.Tryz
def IU (R:Lg×Int):TV:=.tup [R.1.a,.one (.sc (.int .i64 R.2))]
theorem gp {l:List En} {s:List Sv} (h:jk l s=true):l.length≤72∧s.length≤4:=by
 simp only [jk,Bool.and_eq_true,decide_eq_true_eq] at h
 exact ⟨h.1.1.1.1,h.1.1.1.2⟩
theorem CF (g:Lg):FSpec prog 63 [g.a] [] [] (.b (qY g)) []:=E9 g.entries g.saves
theorem xP (g:Lg) (h72:g.entries.length≤72):FSpec prog 64 [g.a] [] [] (.c (.sl bV (dX g))) []:=by
 refine aS func64 ?_
 have hnl:(bE g.entries).length≤72:=by
  have:∀(l:List En) (acc:List ByteArray),(c5 acc l).length≤acc.length+l.length:=by
   intro l
   induction l with
   | nil=>intro acc;simp [c5]
   | cons e l ih =>
    intro acc
    rw [i9]
    cases dB e.name acc with
    | true=>have:=ih acc;simp;omega
    | false=>have:=ih (gl e.name acc);rw [iv] at this;simp;omega
  have:=this g.entries []
  simp at this
  exact Nat.le_trans this h72
 repeat' (first
  | refine ah ?_ ?_
  | refine aa 9 rfl (cC [] (xO g.entries (by omega)) ?_)
  | refine af ?_
  | exact ai|refine ae fun hb=>?_)
 obtain ⟨N,hN⟩:∃N,bE g.entries=N:=⟨_,rfl⟩
 rw [hN] at hnl
 obtain ⟨F,hF⟩:∃F:List ByteArray→List Tm,F=fun L=>(L.map fun m=>(⟨m,az g.entries m⟩:Tm)).filter fun a=>!aG a.am:=⟨_,rfl⟩
 have hH:dX g=F N:=by rw [hF,←hN];rfl
 rw [hH,hN]
 refine b8 3 1000 39 bV rfl rfl rfl ?_
 refine aj (fun x:Nat×List Tm=>x.1≤N.length∧x.2.length≤x.1∧x.2++F (N.drop x.1)=F N) (fun x=>bH [1,1000] [(1,.c (.ptr 1 0)),(3,.c (.own 1000)),(4,.c (.sl q7 N)),(5,.i x.1)] [(1,.box 61 [.sl jP g.entries,.sl lw g.saves]),(1000,.arr 39 bV x.2)]) (fun x=>N.length-x.1) (0,[]) ⟨Nat.zero_le _,Nat.le_refl _,rfl⟩ (by exact ao (qf [])) ?_
 rintro ⟨i,acc⟩ ⟨hi,hal,hs⟩
 dsimp only at *
 by_cases hlt:i<N.length
 ·have e:F (N.drop i)=(bif aG (az g.entries N[i]) then [] else [⟨N[i],az g.entries N[i]⟩])++F (N.drop (i+1)):=by
   rw [List.drop_eq_getElem_cons hlt,hF]
   dsimp only
   rw [List.map_cons,List.filter_cons]
   cases aG (az g.entries N[i]) <;> rfl
  rw [e] at hs
  repeat' (first
   | refine ah ?_ ?_
   | (refine aa 8 rfl ?_;refine bg (aw rfl rfl (aL rfl rfl) (aP [⟨N[i],az g.entries N[i]⟩] rfl rfl rfl rfl) rfl aR aR) rfl rfl rfl ?_)
   | refine aa 9 rfl (cB [] (t7 g.entries N[i]) ?_)
   | refine af ?_
   | exact ai|refine ae fun hb=>?_)
  ·refine ⟨(i+1,acc++[⟨N[i],az g.entries N[i]⟩]),⟨by dsimp only;omega,by simp;omega,?_⟩,by dsimp only;omega,?_⟩
   ·rw [←hs];simp [aG,hb]
   ·exact ao (qf [(1000,34)])
  ·refine ⟨(i+1,acc),⟨by dsimp only;omega,by dsimp only;omega,?_⟩,by dsimp only;omega,?_⟩
   ·rw [←hs];simp [aG,hb]
   ·exact ao (qf [])
 ·have e:acc=F N:=by rw [←hs,List.drop_eq_nil_of_le (by omega)];simp [hF]
  repeat' (first
   | refine ah ?_ ?_
   | refine af ?_
   | exact ai|refine ae fun hb=>?_)
  rw [←e]
  refine aE (qf []) ?_;exact ab
theorem Eff.trans {a b c:Qu} {p:Pr} (h:Eff a b p) (k:Eff b c p):Eff a c p:=by
 rcases h with ⟨h1,h2⟩|⟨x,h1,h2,h3⟩
 ·rcases k with ⟨k1,k2⟩|⟨x,k1,k2,k3⟩
  ·exact .inl ⟨k1.trans h1,k2.trans h2⟩
  ·exact .inr ⟨x,h2.symm.trans k1,k2,k3⟩
 ·rcases k with ⟨k1,k2⟩|⟨y,k1,_⟩
  ·exact .inr ⟨x,h1,k1.trans h2,k2.trans h3⟩
  ·rw [h3] at k1;cases k1
theorem Out.trans {a b c:Qu} {p:Pr} (h:Out a b p) (k:Out b c p):Out a c p :=
 ⟨k.ok,k.res.trans h.res,fun r hr=>(h.eff r hr).trans (k.eff r hr),fun x hx hp=>by
  obtain ⟨y,hy,e1,e2⟩:=k.prio x hx hp
  obtain ⟨z,hz,e3,e4⟩:=h.prio y hy (by rw [e1];exact hp)
  exact ⟨z,hz,e3.trans e1,e4.trans e2⟩⟩
theorem TP.refl {t:List Qu} (hv:df t=true) (p:Pr):TP t t p:=⟨hv,rfl,fun _ hn=>Out.same p (cA hv (dg hn).1),fun _ hr=>.inr hr⟩
theorem TP.trans {a b c:List Qu} {p:Pr} (h:TP a b p) (k:TP b c p):TP a c p :=
 ⟨k.v,k.nm.trans h.nm,fun n hn=>(h.out n hn).trans (k.out n (by rw [h.hasE];exact hn)),fun r hr=>by
  rcases k.sub r hr with e|e
  ·exact .inl e
  ·exact h.sub r e⟩
structure WS (w w':Wk) (p:Pr) (N:ByteArray→Prop):Prop where
 tp:TP w.c.queues w'.c.queues p
 oth:∀m,¬N m→aO w.c.queues m=true→aX w'.c.queues m=aX w.c.queues m
 procs:w'.c.procs=w.c.procs
 now:w'.c.now=w.c.now
theorem WS.refl {w:Wk} (hv:df w.c.queues=true) (p:Pr) (N:ByteArray→Prop):WS w w p N:=⟨TP.refl hv p,fun _ _ _=>rfl,rfl,rfl⟩
theorem WS.trans {a b c:Wk} {p:Pr} {N:ByteArray→Prop} (h:WS a b p N) (k:WS b c p N):WS a c p N :=
 ⟨h.tp.trans k.tp,fun m hm hh=>(k.oth m hm (by rw [h.tp.hasE];exact hh)).trans (h.oth m hm hh),k.procs.trans h.procs,k.now.trans h.now⟩
theorem WS.mono {a b:Wk} {p:Pr} {N M:ByteArray→Prop} (h:WS a b p N) (hm:∀m,N m→M m):WS a b p M:=⟨h.tp,fun m hM hh=>h.oth m (fun e=>hM (hm m e)) hh,h.procs,h.now⟩
theorem WS.take {w:Wk} {t:List Qu} {ev:List Ev} {p:Pr} {n:ByteArray} (hv:df w.c.queues=true) (h:TStep w.c.queues t p n):WS w (w.take t ev) p (· = n):=⟨h.tp hv,fun m hm hh=>h.oth m hm hh,rfl,rfl⟩
theorem CG {r:Rs} {l a:Am} (hs:a7 r=true) (ha:aD r a=true) (hc:bb r l a=false) (hl:l=⟨0,0⟩∨aD r l=true) :
  aD r (bB r l a)=true∧bb r (bB r l a) l=true∧bb r (bB r l a) a=true∧bB r l a≠l:=by
 rcases hl with rfl|hl
 ·rw [pZ ha]
  have p0:be r ⟨0,0⟩=true:=by unfold be aG;rw [hs];rfl
  refine ⟨ha,?_,pT ha,?_⟩
  ·unfold bb;rw [cJ ha,p0];rfl
  ·exact bo.1 (dM ha)
 ·exact yK hl ha hc
theorem jR {t:List Qu} {x:Pc} (h:PStat t x) (n:ByteArray):fZ x n=⟨0,0⟩∨aD (aX t n).res (fZ x n)=true:=by
 by_cases e:fZ x n=⟨0,0⟩
 ·exact .inl e
 ·exact .inr (h.hf n e).2
theorem ku {t:List Qu} (hv:df t=true) {n:ByteArray} (h:aO t n=true):a7 (aX t n).res=true:=(aK (cA hv (dg h).1)).hv.shp
theorem ql {w:Wk} {x:Pc} {n:ByteArray} {a:Am} (hv:df w.c.queues=true) (hn:aO w.c.queues n=true) (hs:PStat w.c.queues x) (ha:aD (aX w.c.queues n).res a=true) (hf:FitA w.c.queues n x a) :
  WS w (bw w x n) x.proc (· = n)∧FitR (bw w x n).c.queues n x:=by
 have same:FitR w.c.queues n x→WS w (bw w x n) x.proc (· = n)∧FitR (bw w x n).c.queues n x:=by
  intro h
  have e1:fg w x.proc n=w:=by unfold fg;rw [h.w];rfl
  have e2:bw w x n=w:=by
   unfold bw cd
   rw [e1,decide_eq_true h.h]
   rfl
  rw [e2]
  exact ⟨WS.refl hv _ _,h⟩
 rcases hf with ⟨_,h⟩|⟨hc,⟨h1,h2⟩|⟨h1,h2,_⟩⟩
 ·exact same h
 ·obtain ⟨j1,j2,_,j4⟩:=CG (ku hv hn) ha hc (jR hs n)
  have e1:fg w x.proc n=w:=by unfold fg;rw [h2];rfl
  have hne:aq (aX w.c.queues n).holds x.proc≠az x.led.entries n:=by rw [h1];exact j4
  have h0:aq (aX w.c.queues n).holds x.proc≠⟨0,0⟩:=by rw [h1];exact bo.1 (dM j1)
  obtain ⟨e,hst,k1,k2⟩:=nz (a:=⟨n,az x.led.entries n⟩) hv hn h0 h2 (by rw [h1];exact j2)
  have e2:bw w x n=fe w x.proc ⟨n,az x.led.entries n⟩:=by
   unfold bw cd
   rw [e1,decide_eq_false hne]
   rfl
  rw [e2]
  exact ⟨WS.take hv hst,⟨k1,k2⟩⟩
 ·obtain ⟨e,hst,k1,k2⟩:=qj (p:=x.proc) hv hn (by rw [h2];rfl)
  have e1:fg w x.proc n=gW w x.proc n:=by unfold fg;rw [h2];rfl
  have hq:aq (aX (gW w x.proc n).c.queues n).holds x.proc=az x.led.entries n:=k1.trans h1
  have e2:bw w x n=gW w x.proc n:=by
   unfold bw cd
   rw [e1,decide_eq_true hq]
   rfl
  rw [e2]
  exact ⟨WS.take hv hst,⟨hq,k2⟩⟩
theorem xQ {l:List Tm} {n:ByteArray} {a:Tm} (h:cV l n=some a):a∈l∧a.name=n:=by
 unfold cV at h
 exact ⟨List.mem_of_find?_eq_some h,aZ.1 (by have:=List.find?_some h;simpa using this)⟩
theorem gK {l:List Tm} {n:ByteArray}:cV l n=none↔∀a∈l,a.name≠n:=by
 unfold cV
 rw [List.find?_eq_none]
 constructor
 ·intro h a ha e
  exact h a ha (aZ.2 e)
 ·intro h a ha e
  exact h a ha (aZ.1 e)
theorem cQ (a:Tm) (l:List Tm) (n:ByteArray):cV (a :: l) n=bif aY a.name n then some a else cV l n:=by
 unfold cV
 rw [List.find?_cons]
 cases aY a.name n <;> rfl
def Bl (l:List Tm):Prop:=l.Pairwise fun a b=>a.name≠b.name
def Rsl (t:List Qu) (l:List Tm):Prop:=∀a∈l,aO t a.name=true∧aD (aX t a.name).res a.am=true
theorem sI {t:List Qu}:∀{l:List Tm},eG t l=0↔Rsl t l
 | []=>by simp [eG,Rsl]
 | a :: l=>by
  unfold eG
  cases h1:aO t a.name with
  | false =>
   simp only [Bool.not_false,cond_true]
   constructor
   ·intro h;cases h
   ·intro h;have:=(h a (by simp)).1;rw [h1] at this;cases this
  | true =>
   simp only [Bool.not_true,cond_false]
   cases h2:aD (aX t a.name).res a.am with
   | false =>
    simp only [Bool.not_false,cond_true]
    constructor
    ·intro h;cases h
    ·intro h;have:=(h a (by simp)).2;rw [h2] at this;cases this
   | true =>
    simp only [Bool.not_true,cond_false]
    rw [sI]
    constructor
    ·intro h b hb
     rcases List.mem_cons.1 hb with rfl|hb
     ·exact ⟨h1,h2⟩
     ·exact h b hb
    ·intro h b hb;exact h b (by simp [hb])
theorem Rsl.tp {t t':List Qu} {p:Pr} {l:List Tm} (hs:TP t t' p) (h:Rsl t l):Rsl t' l:=fun a ha=>by
 obtain ⟨h1,h2⟩:=h a ha
 exact ⟨by rw [hs.hasE];exact h1,by rw [(hs.out _ h1).res];exact h2⟩
theorem FitR.eq {t t':List Qu} {n:ByteArray} {x:Pc} (h:FitR t n x) (e:aX t' n=aX t n):FitR t' n x:=⟨by rw [e];exact h.h,by rw [e];exact h.w⟩
theorem FitA.eq {t t':List Qu} {n:ByteArray} {x:Pc} {a:Am} (h:FitA t n x a) (e:aX t' n=aX t n):FitA t' n x a:=by
 unfold FitA jn at *
 rw [e]
 rcases h with ⟨h1,h2⟩|h
 ·exact .inl ⟨h1,h2.eq e⟩
 ·exact .inr h
theorem FitW.eq {t t':List Qu} {n:ByteArray} {x:Pc} {l:List Tm} (h:FitW t n x l) (e:aX t' n=aX t n):FitW t' n x l:=by
 unfold FitW at *
 cases hf:cV l n with
 | none=>rw [hf] at h;exact h.eq e
 | some a=>rw [hf] at h;exact h.eq e
def DrT (x:Pc):List Tm→Wk→Prop
 | [],_=>True
 | a :: l,w=>df w.c.queues=true∧aO w.c.queues a.name=true∧DrT x l (bw w x a.name)
theorem qm:∀(l:List Tm) (w:Wk) (x:Pc),df w.c.queues=true→PStat w.c.queues x→Bl l→Rsl w.c.queues l→(∀n,aO w.c.queues n=true→FitW w.c.queues n x l)→
  WS w (c9 x l w) x.proc (fun _=>True)∧(∀n,aO w.c.queues n=true→FitR (c9 x l w).c.queues n x)∧DrT x l w
 | [],w,x,hv,_,_,_,hf=>⟨WS.refl hv _ _,fun n hn=>hf n hn,trivial⟩
 | a :: l,w,x,hv,hs,hnd,hr,hf=>by
  obtain ⟨h1,h2⟩:=List.pairwise_cons.1 hnd
  obtain ⟨ha1,ha2⟩:=hr a (by simp)
  have hfa:FitA w.c.queues a.name x a.am:=by
   have:=hf a.name ha1
   unfold FitW at this
   rw [cQ,aZ.2 rfl] at this
   exact this
  obtain ⟨k1,k2⟩:=ql hv ha1 hs ha2 hfa
  have ih:=qm l (bw w x a.name) x k1.tp.v (hs.tp k1.tp) h2 ((show Rsl w.c.queues l from fun b hb=>hr b (by simp [hb])).tp k1.tp) (fun n hn=>by
   rw [k1.tp.hasE] at hn
   by_cases e:n=a.name
   ·subst e
    unfold FitW
    rw [gK.2 (fun b hb e=>h1 b hb e.symm)]
    exact k2
   ·have e1:=k1.oth n e hn
    have h3:=hf n hn
    unfold FitW at h3
    rw [cQ,bR.2 (fun h=>e h.symm)] at h3
    exact FitW.eq (l:=l) h3 e1)
  exact ⟨(k1.mono fun _ _=>trivial).trans ih.1,fun n hn=>ih.2.1 n (by rw [k1.tp.hasE];exact hn),hv,ha1,ih.2.2⟩
theorem fX (n:ByteArray) (l:List Ho):(aV n l).length=l.length:=List.length_map ..
theorem ow (t:List Qu) (p:Pr) (n:ByteArray):(bM t p n).2.1.length≤17:=by
 unfold bM
 cases hV:df t with
 | false=>simp [eR]
 | true =>
  by_cases hf:bi n 0 t<0
  ·simp [hf,eR]
  ·obtain ⟨i,hi,hF,hq,hx⟩:=eK hf
   have:=oo (cA hV (List.getElem_mem hi)) p
   rw [hq]
   cases decide ((bq t[i] p).2.2=0) with
   | false=>simp [hf,eR]
   | true=>simp [hf,fX];exact this
theorem qn (t:List Qu) (p:Pr) (a:Tm):(cy t p a).2.1.length≤18:=by
 unfold cy
 cases hV:df t with
 | false=>simp [eR]
 | true =>
  by_cases hf:bi a.name 0 t<0
  ·simp [hf,eR]
  ·obtain ⟨i,hi,hF,hq,hx⟩:=eK hf
   have:=qi (cA hV (List.getElem_mem hi)) p a.am
   rw [hq]
   cases decide ((bC t[i] p a.am).2.2=0) with
   | false=>simp [hf,eR]
   | true =>
    cases decide (aq t[i].holds p=a.am) with
    | true=>simp [hf,fX];omega
    | false=>simp [hf,fX];omega
theorem ue {t:List Qu} {n:ByteArray} (h:aO t n=true):∃i,∃hi:i<t.length,bi n 0 t=(i:Int)∧aX t n=t[i]:=by
 have hf:¬bi n 0 t<0:=by simpa [aO] using h
 obtain ⟨i,hi,hF,hq,_⟩:=eK hf
 exact ⟨i,hi,hF,hq⟩
def Fa (x:Pc):List Tm→Wk→Prop
 | [],_=>True
 | a :: l,w=>df w.c.queues=true∧aO w.c.queues a.name=true∧w.ev.length≤900000∧Fa x l (bw w x a.name)
theorem CH {t:List Qu} {L:List Pr} (hc:∀r∈aF t,r∈L) (hl:L.length≤8) {p:Pr} (hp:p∈L):(aF t).length≤7∨p∈aF t:=by
 by_cases h:p∈aF t
 ·exact .inr h
 ·left
  have:=gH (l:=p :: aF t) (m:=L) (List.nodup_cons.2 ⟨h,fb t⟩) fun r hr=>by
   rcases List.mem_cons.1 hr with rfl|hr
   ·exact hp
   ·exact hc r hr
  rw [List.length_cons] at this
  omega
theorem CJ {t:List Qu} {L:List Pr} (hv:df t=true) (hc:∀r∈aF t,r∈L) (hl:L.length≤8) {p:Pr} (hp:p∈L) {n:ByteArray} (hn:aO t n=true) (hw:ap (aX t n) p=none) :
  aq (aX t n).holds p≠⟨0,0⟩∨(aX t n).holds.length+(aX t n).waits.length<8:=by
 by_cases h0:aq (aX t n).holds p=⟨0,0⟩
 ·right
  have hq:=dg hn
  have hd:=aK (cA hv hq.1)
  have hno:=dI.1 hw
  have hnd:(cw (aX t n).holds++bN (aX t n).waits).Nodup:=by
   rw [List.nodup_append]
   refine ⟨hd.hv.asc.imp fun {a b} (hab:fq a b) (e:a=b)=>by rw [e] at hab;exact bp b hab,hd.wnd,?_⟩
   intro u hu v hv2 e
   obtain ⟨x,hx,rfl⟩:=List.mem_map.1 hu
   obtain ⟨y,hy,rfl⟩:=List.mem_map.1 hv2
   have h1:=jL hd.hv.asc hx
   rw [e,(hd.wok y hy).2.2] at h1
   exact bo.1 (dM (hd.hv.fit x hx).2) h1.symm
  have hpn:p ∉ cw (aX t n).holds++bN (aX t n).waits:=by
   intro hm
   rcases List.mem_append.1 hm with hm|hm
   ·obtain ⟨x,hx,rfl⟩:=List.mem_map.1 hm
    have h1:=jL hd.hv.asc hx
    rw [h0] at h1
    exact bo.1 (dM (hd.hv.fit x hx).2) h1.symm
   ·obtain ⟨y,hy,e⟩:=List.mem_map.1 hm
    exact hno y (by simp [hy]) e
  have hsub:∀r∈p :: (cw (aX t n).holds++bN (aX t n).waits),r∈L:=by
   intro r hr
   rcases List.mem_cons.1 hr with rfl|hr
   ·exact hp
   ·refine hc r ?_
    unfold aF
    rw [ct,fR]
    refine ⟨_,hq.1,?_⟩
    unfold eM
    rw [ct]
    rcases List.mem_append.1 hr with hr|hr
    ·exact List.mem_append.2 (.inl hr)
    ·refine List.mem_append.2 (.inr ?_)
     show r∈bN ((aX t n).convs++(aX t n).waits)
     unfold bN at hr ⊢
     rw [List.map_append]
     exact List.mem_append.2 (.inr hr)
  have:=gH (List.nodup_cons.2 ⟨hpn,hnd⟩) hsub
  rw [List.length_cons,List.length_append] at this
  unfold cw bN at this
  rw [List.length_map,List.length_map] at this
  omega
 ·exact .inl h0
theorem sJ (L:List Pr) (hl:L.length≤8):∀(l pre:List Tm) (w:Wk) (x:Pc),df w.c.queues=true→PStat w.c.queues x→x.proc∈L→(∀r∈aF w.c.queues,r∈L)→(0≤x.req.prio∧x.req.prio≤7)→Bl (pre++l)→Rsl w.c.queues l→
  (∀n,aO w.c.queues n=true→(cV l n=none→FitW w.c.queues n x (pre++l))∧(∀a,cV l n=some a→FitR w.c.queues n x))→
  WS w (cE x.proc x.req.prio l w) x.proc (fun _=>True)∧(∀n,aO w.c.queues n=true→FitW (cE x.proc x.req.prio l w).c.queues n x (pre++l))∧∀r∈aF (cE x.proc x.req.prio l w).c.queues,r∈L
 | [],pre,w,x,hv,_,_,hc,_,_,_,hf=>⟨WS.refl hv _ _,fun n hn=>(hf n hn).1 rfl,hc⟩
 | a :: l,pre,w,x,hv,hs,hpL,hc,hpr,hnd,hr,hf=>by
  have hnd2:Bl (a :: l):=(List.pairwise_append.1 hnd).2.1
  obtain ⟨h1,h2⟩:=List.pairwise_cons.1 hnd2
  obtain ⟨ha1,ha2⟩:=hr a (by simp)
  have hfr:FitR w.c.queues a.name x:=(hf a.name ha1).2 a (by rw [cQ,aZ.2 rfl];rfl)
  obtain ⟨e,hst,ho⟩:=AG (a:=a) (prio:=x.req.prio) hv ha1 hs.vp hpr ha2 hfr.w (CJ hv hc hl hpL ha1 hfr.w) (CH hc hl hpL)
  have hws:=WS.take (ev:=(bJ w.c.queues x.proc a x.req.prio).2.1) hv hst
  have hc2:∀r∈aF (bJ w.c.queues x.proc a x.req.prio).1,r∈L:=fun r hr2=>by
   rcases hst.sub r hr2 with e|e
   ·rw [e];exact hpL
   ·exact hc r e
  have hres:=hst.out.res
  have hfa:FitA (bJ w.c.queues x.proc a x.req.prio).1 a.name x a.am:=by
   unfold FitA jn
   rw [hres]
   have hh:=hfr.h
   rcases ho.own with ⟨k1,k2⟩|⟨k1,k2⟩
   ·rw [hh] at k1
    exact .inl ⟨k1,hfr.eq k2⟩
   ·rw [hh] at k1 k2
    rcases k2 with ⟨k3,k4⟩|⟨k3,k4⟩
    ·exact .inr ⟨k1,.inr ⟨k3,k4,fun y hy hyp=>ho.pr y hy hyp⟩⟩
    ·exact .inr ⟨k1,.inl ⟨k3,k4⟩⟩
  have happ:pre++a :: l=(pre++[a])++l:=by simp
  have hat:∀n,cV (pre++a :: l) n=some a∨n≠a.name:=by
   intro n
   by_cases e:n=a.name
   ·left
    subst e
    unfold cV
    rw [List.find?_append]
    have hpre:List.find? (fun b:Tm=>aY b.name a.name) pre=none:=by
     rw [List.find?_eq_none]
     intro b hb e2
     exact (List.pairwise_append.1 hnd).2.2 b hb a (by simp) (aZ.1 e2)
    rw [hpre,List.find?_cons,aZ.2 rfl]
    rfl
   ·exact .inr e
  have ih:=sJ L hl l (pre++[a]) (w.take (bJ w.c.queues x.proc a x.req.prio).1 (bJ w.c.queues x.proc a x.req.prio).2.1) x hws.tp.v (hs.tp hws.tp) hpL hc2 hpr (by rw [←happ];exact hnd) ((show Rsl w.c.queues l from fun b hb=>hr b (by simp [hb])).tp hws.tp) (fun n hn=>by
   rw [hws.tp.hasE] at hn
   rw [←happ]
   by_cases e:n=a.name
   ·subst e
    refine ⟨fun _=>?_,fun b hb=>?_⟩
    ·unfold FitW
     rcases hat a.name with h3|h3
     ·rw [h3];exact hfa
     ·exact absurd rfl h3
    ·have:=xQ hb
     exact absurd this.2.symm (h1 b this.1)
   ·have e1:=hws.oth n e hn
    have h3:=hf n hn
    rw [cQ,bR.2 (fun h=>e h.symm),cond_false] at h3
    exact ⟨fun h4=>FitW.eq (h3.1 h4) e1,fun b hb=>(h3.2 b hb).eq e1⟩)
  rw [←happ] at ih
  exact ⟨(hws.mono fun _ _=>trivial).trans ih.1,fun n hn=>ih.2.1 n (by rw [hws.tp.hasE];exact hn),ih.2.2⟩
theorem wm {r:Rs} {l j:Am} (hj:aD r j=true) (hc:bb r j l=true) (hne:j≠l) (hl:l=⟨0,0⟩∨aD r l=true):cO l j=true:=by
 unfold cO
 rw [jK hj,decide_eq_false (fun e=>hne e.symm)]
 rcases hl with rfl|hl
 ·rfl
 ·rw [jK hl]
  have z:=dM hl
  have zj:=dM hj
  have hs:a7 r=true:=by unfold aD at hj;rw [Bool.and_eq_true] at hj;exact hj.1
  unfold bb at hc
  rw [cJ hj,cJ hl,z,zj] at hc
  unfold aD at hl hj
  simp only [Bool.true_and,Bool.false_or,Bool.not_false] at hc ⊢
  rw [z,Bool.false_or]
  rcases bX hs with ⟨hk,_⟩|⟨hk,_⟩
  ·rw [if_pos hk] at hc hl
   simp only [Bool.and_eq_true,fE] at hl
   rw [decide_eq_false (show ¬l.mode=0 by omega)]
   exact hc
  ·rw [if_neg (by omega)] at hc hl hj
   simp only [Bool.and_eq_true,decide_eq_true_eq] at hl hj hc
   rw [decide_eq_true hl.2.1.1]
   simp only [Bool.not_true,cond_false,decide_eq_true_eq]
   rcases Int.lt_or_eq_of_le hc with h|h
   ·exact h
   ·exfalso
    apply hne
    obtain ⟨lm,lu⟩:=l
    obtain ⟨jm,ju⟩:=j
    dsimp only at *
    rw [hl.2.1.1,hj.2.1.1,h]
theorem yY {l:List En} (h:Ents l):∀e∈l,az l e.name≠⟨0,0⟩:=by
 refine my (P:=fun l=>∀e∈l,az l e.name≠⟨0,0⟩) (fun e he=>absurd he (by simp)) ?_ l h
 intro l e _ he ih f hf
 have hu:∀a:Am,bI a=true→a≠⟨0,0⟩:=fun a ha e=>by rw [e] at ha;exact absurd ha (by decide)
 rw [i5]
 rcases List.mem_append.1 hf with hf|hf
 ·cases aY e.name f.name with
  | true=>exact hu _ (mA he.gr).1
  | false=>exact ih f hf
 ·rw [List.mem_singleton] at hf
  subst hf
  rw [aZ.2 rfl]
  exact hu _ (mA he.gr).1
theorem sK {t:List Qu} {x:Pc} (hs:PStat t x):∀e∈x.led.entries,e.name∈es t:=fun e he=>by
 obtain ⟨h1,_⟩:=hs.hf e.name (yY hs.led.ents e he)
 obtain ⟨h2,h3⟩:=dg h1
 exact List.mem_map.2 ⟨_,h2,h3⟩
theorem yZ {t:List Qu} (hv:df t=true) {n:ByteArray} (hn:aO t n=true):co n.toList=true:=by
 obtain ⟨h2,h3⟩:=dg hn
 have h4:=(aK (cA hv h2)).res
 unfold jr Rs.key at h4
 rw [h3] at h4
 simp only [Bool.and_eq_true] at h4
 exact h4.1.1.1
structure GrP (x y:Pc):Prop where
 proc:y.proc=x.proc
 ents:∃m,y.led.entries=x.led.entries++m
 svs:y.led.saves=x.led.saves
theorem GrP.refl (x:Pc):GrP x x:=⟨rfl,⟨[],by simp⟩,rfl⟩
theorem GrP.trans {x y z:Pc} (h:GrP x y) (k:GrP y z):GrP x z:=by
 obtain ⟨h1,⟨m,h2⟩,h3⟩:=h
 obtain ⟨k1,⟨m',k2⟩,k3⟩:=k
 exact ⟨k1.trans h1,⟨m++m',by rw [k2,h2,List.append_assoc]⟩,k3.trans h3⟩
structure LedOf (t:List Qu) (x y:Pc):Prop where
 eq:y = { x with led:=y.led }
 stat:PStat t y
 gr:GrP x y
theorem LedOf.proc {t:List Qu} {x y:Pc} (h:LedOf t x y):y.proc=x.proc:=by rw [h.eq]
theorem CK {w:Wk} {i:Nat} {x y:Pc} {n:ByteArray} {a:Am} (hv:df w.c.queues=true) (hn:aO w.c.queues n=true) (hy:w.pc i=y) (hi:i<w.c.procs.length) (hl:LedOf w.c.queues x y) (hlh:fZ y n=fZ x n) (ha:aD (aX w.c.queues n).res a=true) (hf:FitA w.c.queues n x a)
  (hc:bb (aX w.c.queues n).res (aq (aX w.c.queues n).holds x.proc) a=true) :
  ∃y',gS w i x.proc n=w.setP i y'∧LedOf w.c.queues x y'∧FitR w.c.queues n y'∧∀m,m≠n→fZ y' m=fZ y m:=by
 have same:FitR w.c.queues n x→∃y',gS w i x.proc n=w.setP i y'∧LedOf w.c.queues x y'∧FitR w.c.queues n y'∧∀m,m≠n→fZ y' m=fZ y m:=by
  intro h
  have h1:aq (aX w.c.queues n).holds x.proc=az (w.pc i).led.entries n:=by rw [hy];exact h.h.trans hlh.symm
  refine ⟨y,?_,hl,⟨?_,?_⟩,fun _ _=>rfl⟩
  ·unfold gS
   rw [decide_eq_true h1,cond_true]
   unfold Wk.setP
   have:w.c.procs.set i y=w.c.procs:=by
    apply List.ext_getElem
    ·simp
    ·intro j h1 h2
     rw [List.getElem_set]
     split
     ·next e =>
      subst e
      unfold Wk.pc at hy
      rw [←hy]
      simp [hi]
     ·rfl
   rw [this]
  ·rw [hl.proc];exact h.h.trans hlh.symm
  ·rw [hl.proc];exact h.w
 rcases hf with ⟨_,h⟩|⟨hc2,⟨h1,h2⟩|⟨h1,h2,_⟩⟩
 ·exact same h
 ·obtain ⟨j1,j2,_,j4⟩:=CG (ku hv hn) ha hc2 (by rw [←hlh];exact jR hl.stat n)
  have hne:aq (aX w.c.queues n).holds x.proc≠az (w.pc i).led.entries n:=by rw [hy,h1,show az y.led.entries n=fZ x n from hlh];exact j4
  have hgr:cO (fZ x n) (jn w.c.queues n x a)=true:=wm j1 j2 j4 (by rw [←hlh];exact jR hl.stat n)
  obtain ⟨e1,e2⟩:=sC (g:=y.led) hl.stat.led (e:=⟨n,fZ x n,jn w.c.queues n x a⟩) (yZ hv hn) (by show fZ x n=az y.led.entries n;exact hlh.symm) hgr (ns:=es w.c.queues) (by unfold es;rw [List.length_map];exact (bD hv).1) (sK hl.stat) (by obtain ⟨h3,h4⟩:=dg hn;exact List.mem_map.2 ⟨_,h3,h4⟩)
  have hlhn:∀m,az (y.led.entries++[(⟨n,fZ x n,jn w.c.queues n x a⟩:En)]) m=bif aY n m then jn w.c.queues n x a else fZ y m:=fun m=>i5 _ _ _
  refine ⟨{ y with led:=⟨y.led.entries++[⟨n,fZ x n,jn w.c.queues n x a⟩],y.led.saves⟩ },?_,⟨?_,?_,hl.gr.trans ⟨rfl,⟨_,rfl⟩,rfl⟩⟩,⟨?_,?_⟩,fun m hm=>?_⟩
  ·unfold gS
   rw [decide_eq_false hne,cond_false,hy,h1,show az y.led.entries n=fZ x n from hlh,e1]
  ·have:=hl.eq
   generalize y.led=g at *
   subst this
   rfl
  ·have hst:=hl.stat
   refine ⟨hst.vp,hst.cost,e2,hst.gen,fun m hm=>?_⟩
   have h5:fZ { y with led:=⟨y.led.entries++[⟨n,fZ x n,jn w.c.queues n x a⟩],y.led.saves⟩ } m=bif aY n m then jn w.c.queues n x a else fZ y m:=hlhn m
   rw [h5] at hm ⊢
   cases he:aY n m with
   | true =>
    have:=aZ.1 he
    subst this
    exact ⟨hn,j1⟩
   | false =>
    rw [he] at hm
    exact hst.hf m hm
  ·show aq (aX w.c.queues n).holds y.proc=az _ n
   rw [hl.proc,h1,hlhn,aZ.2 rfl]
   rfl
  ·show ap (aX w.c.queues n) y.proc=none
   rw [hl.proc]
   exact h2
  ·show az _ m=_
   rw [hlhn,bR.2 (fun e=>hm e.symm)]
   rfl
 ·rw [h1,hc2] at hc
  cases hc
theorem fk {w:Wk} {i:Nat} (hi:i<w.c.procs.length) (x:Pc):(w.setP i x).pc i=x:=by
 unfold Wk.setP Wk.pc
 simp [hi]
theorem fG (w:Wk) (i:Nat) (x y:Pc):(w.setP i x).setP i y=w.setP i y:=by
 unfold Wk.setP
 simp
theorem LedOf.refl {t:List Qu} {x:Pc} (h:PStat t x):LedOf t x x:=⟨rfl,h,GrP.refl x⟩
theorem FitR.led {t:List Qu} {n:ByteArray} {x y:Pc} (h:FitR t n x) (hp:y.proc=x.proc) (hl:fZ y n=fZ x n):FitR t n y:=⟨by rw [hp,hl];exact h.h,by rw [hp];exact h.w⟩
def FinT (x:Pc) (i:Nat):List Tm→List Bool→Wk→Prop
 | a :: l,b :: bs,w=>df w.c.queues=true∧aO w.c.queues a.name=true∧i<w.c.procs.length∧FinT x i l bs (bif b then gS w i x.proc a.name else bw w x a.name)
 | _,_,_=>True
theorem qo:∀(l:List Tm) (bs:List Bool) (w:Wk) (i:Nat) (x y:Pc),l.length=bs.length→df w.c.queues=true→w.pc i=y→i<w.c.procs.length→PStat w.c.queues x→LedOf w.c.queues x y→(∀a∈l,fZ y a.name=fZ x a.name)→Bl l→Rsl w.c.queues l→
  (∀n,aO w.c.queues n=true→(∀a,cV l n=some a→FitA w.c.queues n x a.am)∧(cV l n=none→FitR w.c.queues n y))→
  (∀k (h:k<l.length),bs.getD k false=true→bb (aX w.c.queues l[k].name).res (aq (aX w.c.queues l[k].name).holds x.proc) l[k].am=true)→
  ∃y',TP w.c.queues (dm x i l bs w).c.queues x.proc∧(dm x i l bs w).c.procs=w.c.procs.set i y'∧(dm x i l bs w).c.now=w.c.now∧LedOf (dm x i l bs w).c.queues x y'∧(∀n,aO w.c.queues n=true→FitR (dm x i l bs w).c.queues n y')∧FinT x i l bs w
 | [],bs,w,i,x,y,_,hv,hy,hi,_,hl,_,_,_,hf,_=>by
  have e:dm x i [] bs w=w:=by cases bs <;> rfl
  rw [e]
  refine ⟨y,TP.refl hv _,?_,rfl,hl,fun n hn=>(hf n hn).2 rfl,by cases bs <;> trivial⟩
  apply List.ext_getElem
  ·simp
  ·intro j h1 h2
   rw [List.getElem_set]
   split
   ·next e =>
    subst e
    unfold Wk.pc at hy
    rw [←hy]
    simp [hi]
   ·rfl
 | a :: l,[],w,i,x,y,hlen,_,_,_,_,_,_,_,_,_,_=>by simp at hlen
 | a :: l,b :: bs,w,i,x,y,hlen,hv,hy,hi,hsx,hl,hlh,hnd,hr,hf,hc=>by
  obtain ⟨h1,h2⟩:=List.pairwise_cons.1 hnd
  obtain ⟨ha1,ha2⟩:=hr a (by simp)
  have hfa:FitA w.c.queues a.name x a.am:=(hf a.name ha1).1 a (by rw [cQ,aZ.2 rfl];rfl)
  have hr2:Rsl w.c.queues l:=fun b hb=>hr b (by simp [hb])
  have hat:∀n,n≠a.name→cV (a :: l) n=cV l n:=fun n hn=>by rw [cQ,bR.2 (fun h=>hn h.symm)];rfl
  have hnone:cV l a.name=none:=gK.2 fun b hb e=>h1 b hb e.symm
  cases b with
  | true =>
   obtain ⟨y1,e1,k1,k2,k3⟩:=CK hv ha1 hy hi hl (hlh a (by simp)) ha2 hfa (by have:=hc 0 (by simp) (by simp);simpa using this)
   have e:dm x i (a :: l) (true :: bs) w=dm x i l bs (w.setP i y1):=by
    show dm x i l bs (bif true then gS w i x.proc a.name else bw w x a.name)=_
    rw [cond_true,e1]
   rw [e]
   have ih:=qo l bs (w.setP i y1) i x y1 (by simpa using hlen) hv (fk hi y1) (by show i<(w.c.procs.set i y1).length;simpa using hi) hsx k1 (fun b hb=>by rw [k3 _ (fun e=>h1 b hb e.symm)];exact hlh b (by simp [hb])) h2 hr2
    (fun n hn=>by
     by_cases en:n=a.name
     ·subst en
      exact ⟨fun b hb=>(by rw [hnone] at hb;cases hb),fun _=>k2⟩
     ·have h3:=hf n hn
      rw [hat n en] at h3
      exact ⟨h3.1,fun h4=>(h3.2 h4).led (by rw [k1.proc,hl.proc]) (k3 n en)⟩)
    (fun k hk hb=>by
     have h5:=hc (k+1) (by simpa using hk) (by simpa using hb)
     simp only [List.getElem_cons_succ] at h5
     exact h5)
   obtain ⟨y',q1,q2,q3,q4,q5,q6⟩:=ih
   refine ⟨y',q1,?_,q3,q4,q5,hv,ha1,hi,by rw [cond_true,e1];exact q6⟩
   rw [q2]
   show (w.c.procs.set i y1).set i y'=_
   simp
  | false =>
   obtain ⟨k1,k2⟩:=ql hv ha1 hsx ha2 hfa
   have e:dm x i (a :: l) (false :: bs) w=dm x i l bs (bw w x a.name):=rfl
   rw [e]
   have ih:=qo l bs (bw w x a.name) i x y (by simpa using hlen) k1.tp.v (by unfold Wk.pc at hy ⊢;rw [k1.procs];exact hy) (by rw [k1.procs];exact hi) (hsx.tp k1.tp) ⟨hl.eq,hl.stat.tp k1.tp,hl.gr⟩ (fun b hb=>hlh b (by simp [hb])) h2 (hr2.tp k1.tp)
    (fun n hn=>by
     rw [k1.tp.hasE] at hn
     by_cases en:n=a.name
     ·subst en
      exact ⟨fun b hb=>(by rw [hnone] at hb;cases hb),fun _=>k2.led hl.proc (hlh a (by simp))⟩
     ·have h3:=hf n hn
      rw [hat n en] at h3
      have e1:=k1.oth n en hn
      exact ⟨fun b hb=>(h3.1 b hb).eq e1,fun h4=>(h3.2 h4).eq e1⟩)
    (fun k hk hb=>by
     have h5:=hc (k+1) (by simpa using hk) (by simpa using hb)
     simp only [List.getElem_cons_succ] at h5
     have hm:l[k]∈l:=List.getElem_mem hk
     rw [k1.oth l[k].name (fun e=>h1 _ hm e.symm) (hr2 _ hm).1]
     exact h5)
   obtain ⟨y',q1,q2,q3,q4,q5,q6⟩:=ih
   exact ⟨y',k1.tp.trans q1,by rw [q2,k1.procs],q3.trans k1.now,q4,fun n hn=>q5 n (by rw [k1.tp.hasE];exact hn),hv,ha1,hi,q6⟩
theorem qp (x:Ex) (L:List Tm):∀(n:Nat) (out:List Bool) (k:Nat),(i6 x L n out).getD k false=true→out.getD k false=true
 | 0,_,_,h=>h
 | n+1,out,k,h=>by
  have h1:=qp x L n _ k h
  cases hb:out.getD n false with
  | false=>rw [hb] at h1;exact h1
  | true =>
   rw [hb,cond_true] at h1
   by_cases hk:k=n
   ·subst hk;exact hb
   ·rw [List.getD_eq_getElem?_getD,List.getElem?_set_ne (fun e=>hk e.symm),←List.getD_eq_getElem?_getD] at h1
    exact h1
theorem qr (x:Ex) (L:List Tm):∀(n:Nat) (out:List Bool),(i6 x L n out).length=out.length
 | 0,_=>rfl
 | n+1,out=>by
  unfold i6
  rw [qr x L n]
  cases out.getD n false <;> simp
theorem nB (x:Ex) (set:List Bool):(cW x set).length=(cj x).length:=by
 unfold cW
 cases dw x set with
 | true=>rw [cond_true,qr];simp
 | false=>simp
theorem sL {x:Ex} {set:List Bool} {k:Nat} (h:(cW x set).getD k false=true):set.getD k false=true:=by
 unfold cW at h
 cases hh:dw x set with
 | true =>
  rw [hh,cond_true] at h
  have h1:=qp x (cj x) _ _ k h
  rw [List.getD_eq_getElem?_getD,List.getElem?_map] at h1
  by_cases hk:k<(cj x).length
  ·rw [List.getElem?_range hk] at h1
   exact h1
  ·rw [List.getElem?_eq_none (by simpa using hk)] at h1
   cases h1
 | false =>
  rw [hh,cond_false,List.getD_eq_getElem?_getD] at h
  by_cases hk:k<(cj x).length
  ·rw [List.getElem?_replicate,if_pos hk] at h;cases h
  ·rw [List.getElem?_replicate,if_neg hk] at h;cases h
theorem CM {x:Ex} (h:ib x=true):Bl (cj x):=by
 have h1:=(ni h).2.2
 unfold cj
 rw [h,cond_true]
 unfold ib at h
 simp only [Bool.and_eq_true,decide_eq_true_eq] at h
 exact h.2.2.2
theorem lT (x:Ex):Bl (cj x):=by
 cases h:ib x with
 | true=>exact CM h
 | false=>rw [pw h];exact List.Pairwise.nil
structure CI (c:Cs):Prop where
 now:0≤c.now∧c.now≤1073741824
 tv:df c.queues=true
 len:c.procs.length≤8
 asc:(c.procs.map (·.proc)).Pairwise fq
 cov:∀r∈aF c.queues,r∈c.procs.map (·.proc)
 inv:∀x∈c.procs,PInv c.queues c.now x
theorem bv {w:Wk} {i:Nat} (hi:i<w.c.procs.length):w.pc i=w.c.procs[i]:=by unfold Wk.pc;simp [hi]
theorem wn {c:Cs} (h:CI c) {i j:Nat} (hi:i<c.procs.length) (hj:j<c.procs.length) (hij:i≠j):c.procs[i].proc≠c.procs[j].proc:=by
 intro e
 have hp:=List.pairwise_iff_getElem.1 h.asc
 rcases Nat.lt_or_gt_of_ne hij with hlt|hlt
 ·have:=hp i j (by simpa using hi) (by simpa using hj) hlt
  simp only [List.getElem_map] at this
  rw [e] at this
  exact bp _ this
 ·have:=hp j i (by simpa using hj) (by simpa using hi) hlt
  simp only [List.getElem_map] at this
  rw [e] at this
  exact bp _ this
theorem CI.upd {c c':Cs} (h:CI c) {i:Nat} (hi:i<c.procs.length) {y:Pc} (hp:c'.procs=c.procs.set i y) (hn:c'.now=c.now) (hyp:y.proc=c.procs[i].proc) (ht:TP c.queues c'.queues y.proc) (hy:PInv c'.queues c'.now y):CI c':=by
 have hm:c'.procs.map (·.proc)=c.procs.map (·.proc):=by
  rw [hp,List.map_set,hyp]
  apply List.ext_getElem
  ·simp
  ·intro j h1 h2
   rw [List.getElem_set]
   split
   ·next e=>subst e;simp
   ·rfl
 refine ⟨by rw [hn];exact h.now,ht.v,by rw [hp];simpa using h.len,by rw [hm];exact h.asc,fun r hr=>?_,fun x hx=>?_⟩
 ·rw [hm]
  rcases ht.sub r hr with e|e
  ·rw [e,hyp]
   exact List.mem_map.2 ⟨_,List.getElem_mem hi,rfl⟩
  ·exact h.cov r e
 ·rw [hp] at hx
  obtain ⟨j,hj,e⟩:=List.mem_iff_getElem.1 hx
  rw [List.getElem_set] at e
  have hj2:j<c.procs.length:=by simpa using hj
  split at e
  ·subst e;exact hy
  ·next hij =>
   subst e
   have h1:=h.inv _ (List.getElem_mem hj2)
   rw [←hn] at h1
   exact h1.tp ht (by rw [hyp];exact wn h hj2 hi (fun e=>hij e.symm))
def ce (l:List Pc):Nat:=(l.filter (·.waiting)).length
theorem sM {l:List Pc} {i:Nat} (hi:i<l.length) {y:Pc} (h1:l[i].waiting=true) (h2:y.waiting=false):ce (l.set i y)+1=ce l:=by
 unfold ce
 induction l generalizing i with
 | nil=>simp at hi
 | cons x l ih =>
  cases i with
  | zero =>
   have h1':x.waiting=true:=h1
   rw [List.set_cons_zero,List.filter_cons,List.filter_cons,if_neg (by rw [h2];simp),if_pos h1']
   rfl
  | succ i =>
   have:=ih (i:=i) (by simpa using hi) (by simpa using h1)
   rw [List.set_cons_succ,List.filter_cons,List.filter_cons]
   cases x.waiting with
   | true=>rw [if_pos rfl,if_pos rfl,List.length_cons,List.length_cons];omega
   | false=>rw [if_neg (by simp),if_neg (by simp)];exact this
theorem mJ (l:List Pc):ce l≤l.length:=List.length_filter_le _ _
theorem wt {t:List Qu} {now:Int} {y:Pc} (hs:PStat t y) (hf:∀n,aO t n=true→FitR t n y):PInv t now { y with waiting:=false,req:=Rq.zero,since:=0 } :=
 ⟨⟨hs.vp,hs.cost,hs.led,hs.gen,hs.hf⟩,fun _=>⟨rfl,rfl,fun n hn=>⟨(hf n hn).h,(hf n hn).w⟩⟩,fun h=>by cases h⟩
theorem PInv.regen {t:List Qu} {now:Int} {y:Pc} (h:PInv t now y) (g:Int):PInv t now { y with gen:=aQ g } :=
 ⟨⟨h.stat.vp,h.stat.cost,h.stat.led,by have:=mr (n:=g);show 0≤aQ g∧aQ g≤1073741824;omega,h.stat.hf⟩,fun hw=>by
  obtain ⟨h1,h2,h3⟩:=h.run hw
  exact ⟨h1,h2,fun n hn=>⟨(h3 n hn).h,(h3 n hn).w⟩⟩,fun hw=>by
  obtain ⟨h1,h2⟩:=h.wat hw
  refine ⟨⟨h1.rq,h1.rs,h1.sn⟩,fun n hn=>?_⟩
  have:=h2 n hn
  unfold FitW at this ⊢
  cases ha:cV (cj y.req.expr) n with
  | none=>rw [ha] at this;exact ⟨this.h,this.w⟩
  | some a =>
   rw [ha] at this
   rcases this with ⟨k1,k2⟩|k
   ·exact .inl ⟨k1,k2.h,k2.w⟩
   ·exact .inr k⟩
theorem nC {t:List Qu} {x:Ex} (h:go t x=0):ib x=true∧Rsl t (cj x):=by
 unfold go at h
 cases hv:ib x with
 | false=>rw [hv] at h;cases h
 | true =>
  rw [hv] at h
  exact ⟨rfl,sI.1 h⟩
def KW (l l':List Pc):Prop:=∀x∈l',x.waiting=true→x∈l
theorem KW.refl (l:List Pc):KW l l:=fun _ h _=>h
theorem KW.trans {a b c:List Pc} (h:KW a b) (k:KW b c):KW a c:=fun x hx hw=>h x (k x hx hw) hw
theorem KW.set {l:List Pc} {i:Nat} {y:Pc} (hy:y.waiting=false):KW l (l.set i y):=fun x hx hw=>by
 rcases List.mem_or_eq_of_mem_set hx with h|rfl
 ·exact h
 ·rw [hy] at hw;cases hw
def KG (l l':List Pc):Prop:=∀x∈l,∃x'∈l',GrP x x'
theorem KG.refl (l:List Pc):KG l l:=fun x h=>⟨x,h,GrP.refl x⟩
theorem KG.trans {a b c:List Pc} (h:KG a b) (k:KG b c):KG a c:=fun x hx=>by
 obtain ⟨y,hy,h1⟩:=h x hx
 obtain ⟨z,hz,h2⟩:=k y hy
 exact ⟨z,hz,h1.trans h2⟩
theorem KG.set {l:List Pc} {i:Nat} (hi:i<l.length) {y:Pc} (hy:GrP l[i] y):KG l (l.set i y):=fun x hx=>by
 obtain ⟨j,hj,e⟩:=List.mem_iff_getElem.1 hx
 by_cases hji:j=i
 ·subst hji
  exact ⟨y,List.mem_iff_getElem.2 ⟨j,by simpa using hj,by simp⟩,by rw [←e];exact hy⟩
 ·refine ⟨x,List.mem_iff_getElem.2 ⟨j,by simpa using hj,?_⟩,GrP.refl x⟩
  rw [List.getElem_set_ne (fun e2=>hji e2.symm)]
  exact e
structure KN (l l':List Pc):Prop where
 nw:∀x∈l,x.waiting=false→x∈l'
 gr:KG l l'
theorem KN.refl (l:List Pc):KN l l:=⟨fun _ h _=>h,KG.refl l⟩
theorem KN.trans {a b c:List Pc} (h:KN a b) (k:KN b c):KN a c:=⟨fun x hx hw=>k.nw x (h.nw x hx hw) hw,h.gr.trans k.gr⟩
theorem KN.set {l:List Pc} {i:Nat} (hi:i<l.length) (hw:l[i].waiting=true) {y:Pc} (hy:GrP l[i] y):KN l (l.set i y):=⟨fun x hx hxw=>by
 obtain ⟨j,hj,e⟩:=List.mem_iff_getElem.1 hx
 have hji:j≠i:=fun e2=>by subst e2;rw [e,hxw] at hw;cases hw
 refine List.mem_iff_getElem.2 ⟨j,by simpa using hj,?_⟩
 rw [List.getElem_set_ne (fun e2=>hji e2.symm)]
 exact e,KG.set hi hy⟩
theorem CN {w:Wk} {i:Nat} (h:CI w.c) (hi:i<w.c.procs.length) (hw:(w.pc i).waiting=true) :
  CI (g8 w i).c∧ce (g8 w i).c.procs+1=ce w.c.procs∧(g8 w i).c.procs.length=w.c.procs.length∧(g8 w i).c.now=w.c.now∧KW w.c.procs (g8 w i).c.procs∧(g8 w i).c.procs.map (·.proc)=w.c.procs.map (·.proc)∧KN w.c.procs (g8 w i).c.procs∧es (g8 w i).c.queues=es w.c.queues∧FinT (w.pc i) i (cj (w.pc i).req.expr) (cW (w.pc i).req.expr (bd w.c.queues (w.pc i).proc (w.pc i).req.expr)) (w.note 2 (w.pc i).proc):=by
 have hpc:=bv hi
 have hinv:=h.inv _ (List.getElem_mem hi)
 rw [←hpc] at hinv
 obtain ⟨hwt,hfit⟩:=hinv.wat hw
 obtain ⟨hve,hrsl⟩:=nC hwt.rs
 obtain ⟨y',q1,q2,q3,q4,q5,q6⟩:=qo (cj (w.pc i).req.expr) (cW (w.pc i).req.expr (bd w.c.queues (w.pc i).proc (w.pc i).req.expr)) (w.note 2 (w.pc i).proc) i (w.pc i) (w.pc i) (nB _ _).symm h.tv rfl hi hinv.stat (LedOf.refl hinv.stat) (fun _ _=>rfl) (lT _) hrsl
  (fun n hn=>by
   have:=hfit n hn
   unfold FitW at this
   exact ⟨fun a ha=>by rw [ha] at this;exact this,fun ha=>by rw [ha] at this;exact this⟩)
  (fun k hk hb=>by
   have h1:=sL hb
   unfold bd at h1
   rw [List.getD_eq_getElem?_getD,List.getElem?_map,List.getElem?_eq_getElem hk] at h1
   have h2:(aO w.c.queues (cj (w.pc i).req.expr)[k].name && bb (aX w.c.queues (cj (w.pc i).req.expr)[k].name).res (aq (aX w.c.queues (cj (w.pc i).req.expr)[k].name).holds (w.pc i).proc) (cj (w.pc i).req.expr)[k].am)=true:=h1
   rw [Bool.and_eq_true] at h2
   exact h2.2)
 have e:∀g:Wk,dm (w.pc i) i (cj (w.pc i).req.expr) (cW (w.pc i).req.expr (bd w.c.queues (w.pc i).proc (w.pc i).req.expr)) (w.note 2 (w.pc i).proc)=g→g8 w i=bf (gI g i) i:=fun g hg=>by unfold g8;rw [hg]
 generalize hg:dm (w.pc i) i (cj (w.pc i).req.expr) (cW (w.pc i).req.expr (bd w.c.queues (w.pc i).proc (w.pc i).req.expr)) (w.note 2 (w.pc i).proc)=g at *
 rw [e g rfl]
 have q2':g.c.procs=w.c.procs.set i y':=q2
 have hgi:i<g.c.procs.length:=by rw [q2'];simpa using hi
 have hgp:g.pc i=y':=by rw [bv hgi];simp [q2']
 have hproc:y'.proc=w.c.procs[i].proc:=by rw [q4.proc,hpc]
 have e2:bf (gI g i) i=g.setP i { y' with waiting:=false,req:=Rq.zero,since:=0,gen:=aQ y'.gen }:=by
  unfold bf gI
  rw [hgp,fk hgi,fG]
 rw [e2]
 have hfin:PInv g.c.queues g.c.now { y' with waiting:=false,req:=Rq.zero,since:=0,gen:=aQ y'.gen } :=
  (wt q4.stat (fun n hn=>q5 n (by have:=q1.hasE n;rw [this] at hn;exact hn)):PInv g.c.queues g.c.now { y' with waiting:=false,req:=Rq.zero,since:=0 }).regen y'.gen
 have hps:(g.setP i { y' with waiting:=false,req:=Rq.zero,since:=0,gen:=aQ y'.gen }).c.procs=w.c.procs.set i { y' with waiting:=false,req:=Rq.zero,since:=0,gen:=aQ y'.gen }:=by
  show g.c.procs.set i _=_
  rw [q2',List.set_set]
 have hn:g.c.now=w.c.now:=q3
 have hmap:(w.c.procs.set i { y' with waiting:=false,req:=Rq.zero,since:=0,gen:=aQ y'.gen }).map (·.proc)=w.c.procs.map (·.proc):=by
  rw [List.map_set]
  apply List.ext_getElem
  ·simp
  ·intro j h1 h2
   rw [List.getElem_set]
   split
   ·next e=>subst e;simp [hproc]
   ·rfl
 refine ⟨h.upd hi hps hn hproc ?_ hfin,?_,by rw [hps];simp,hn,by rw [hps];exact KW.set rfl,by rw [hps];exact hmap,by rw [hps];exact KN.set hi (by rw [←hpc];exact hw) (by rw [←hpc];exact ⟨q4.gr.proc,q4.gr.ents,q4.gr.svs⟩),q1.nm,q6⟩
 ·have:y'.proc=(w.pc i).proc:=q4.proc
  show TP w.c.queues g.c.queues y'.proc
  rw [this]
  exact q1
 ·rw [hps]
  exact sM hi (by rw [←hpc];exact hw) rfl
theorem ja {t:List Qu}:∀{l:List Pc} {k i:Nat},fU t k l=some i→∃j,∃h:j<l.length,i=k+j∧eu t l[j]=true
 | [],_,_,h=>by cases h
 | x :: l,k,i,h=>by
  unfold fU at h
  cases hs:eu t x with
  | true =>
   rw [hs,cond_true] at h
   injection h with h
   exact ⟨0,by simp,by omega,hs⟩
  | false =>
   rw [hs,cond_false] at h
   obtain ⟨j,hj,e,h2⟩:=ja h
   exact ⟨j+1,by simpa using hj,by omega,by simpa using h2⟩
theorem qs {t:List Qu}:∀{l:List Pc} {k:Nat},fU t k l=none→∀x∈l,eu t x=false
 | [],_,_,x,hx=>absurd hx (by simp)
 | y :: l,k,h,x,hx=>by
  unfold fU at h
  cases hs:eu t y with
  | true=>rw [hs] at h;cases h
  | false =>
   rw [hs,cond_false] at h
   rcases List.mem_cons.1 hx with rfl|hx
   ·exact hs
   ·exact qs h x hx
theorem kv {l:List Pc} {i:Nat} (hi:i<l.length) (h:l[i].waiting=true):0<ce l:=by
 unfold ce
 exact List.length_pos_of_mem (List.mem_filter.2 ⟨List.getElem_mem hi,h⟩)
theorem qt:∀(n:Nat) (w:Wk),CI w.c→ce w.c.procs≤n→CI (a8 n w).c∧(∀x∈(a8 n w).c.procs,eu (a8 n w).c.queues x=false)∧(a8 n w).c.procs.map (·.proc)=w.c.procs.map (·.proc)∧(a8 n w).c.now=w.c.now∧ce (a8 n w).c.procs≤ce w.c.procs∧KW w.c.procs (a8 n w).c.procs∧KN w.c.procs (a8 n w).c.procs∧es (a8 n w).c.queues=es w.c.queues
 | 0,w,h,hn=>by
  refine ⟨h,fun x hx=>?_,rfl,rfl,Nat.le_refl _,KW.refl _,KN.refl _,rfl⟩
  cases hw:x.waiting with
  | false=>unfold eu;rw [hw];rfl
  | true =>
   obtain ⟨i,hi,e⟩:=List.mem_iff_getElem.1 hx
   have:=kv hi (by rw [e];exact hw)
   have hn':ce w.c.procs≤0:=hn
   have this':0<ce w.c.procs:=this
   omega
 | n+1,w,h,hn=>by
  unfold a8
  cases hs:fU w.c.queues 0 w.c.procs with
  | none=>exact ⟨h,qs hs,rfl,rfl,Nat.le_refl _,KW.refl _,KN.refl _,rfl⟩
  | some i =>
   obtain ⟨j,hj,e,h2⟩:=ja hs
   have e':i=j:=by omega
   subst e'
   have hwt:(w.pc i).waiting=true:=by
    rw [bv hj]
    unfold eu at h2
    rw [Bool.and_eq_true] at h2
    exact h2.1
   obtain ⟨k1,k2,k3,k4,k5,k6,k7,k8,_⟩:=CN h hj hwt
   obtain ⟨l1,l2,l3,l4,l5,l6,l7,l8⟩:=qt n (g8 w i) k1 (by omega)
   exact ⟨l1,l2,l3.trans k6,l4.trans k4,Nat.le_trans l5 (by omega),k5.trans l6,k7.trans l7,l8.trans k8⟩
theorem iy {w:Wk} (h:CI w.c):CI (br w).c∧(∀x∈(br w).c.procs,eu (br w).c.queues x=false)∧(br w).c.procs.map (·.proc)=w.c.procs.map (·.proc)∧(br w).c.now=w.c.now∧ce (br w).c.procs≤ce w.c.procs∧KW w.c.procs (br w).c.procs∧KN w.c.procs (br w).c.procs∧es (br w).c.queues=es w.c.queues :=
 qt _ w h (mJ _)
def CO (x:Pc) (i:Nat):List Tm→List Bool→Wk→Prop
 | a :: l,b :: bs,w=>df w.c.queues=true∧aO w.c.queues a.name=true∧w.ev.length≤900000∧i<w.c.procs.length∧CO x i l bs (bif b then gS w i x.proc a.name else bw w x a.name)
 | _,_,_=>True
def JY (v:Wk) (i:Nat):Wk:=dm (v.pc i) i (cj (v.pc i).req.expr) (cW (v.pc i).req.expr (bd v.c.queues (v.pc i).proc (v.pc i).req.expr)) (v.note 2 (v.pc i).proc)
def StOk:Nat→Wk→Prop
 | 0,v=>v.c.procs.length≤100000∧fU v.c.queues 0 v.c.procs=none
 | n+1,v=>v.c.procs.length≤100000∧v.ev.length≤900000∧∀i,fU v.c.queues 0 v.c.procs=some i→i<v.c.procs.length∧i<(JY v i).c.procs.length∧
   CO (v.pc i) i (cj (v.pc i).req.expr) (cW (v.pc i).req.expr (bd v.c.queues (v.pc i).proc (v.pc i).req.expr)) (v.note 2 (v.pc i).proc)∧StOk n (g8 v i)
theorem StOk.len {n:Nat} {v:Wk} (h:StOk n v):v.c.procs.length≤100000:=by cases n <;> exact h.1
theorem wu (w:Wk) (i:Nat) (x:Pc):(w.setP i x).c.procs.length=w.c.procs.length:=List.length_set
def IV (l:List Pc):Prop:=∀x∈l,(-1000000000000≤x.since∧x.since≤1000000000000)∧-1000000000000≤x.req.limit∧x.req.limit≤1000000000000
theorem xR (now:Int) (k:Nat) (x:Pc) (l:List Pc) (b:Int×Int):ir now k (x :: l) b=ir now (k+1) l (bif x.waiting && !decide (x.req.limit=0) && decide (x.since+x.req.limit≤now) && (decide (b.1<0) || decide (x.since+x.req.limit<b.2)) then ((k:Int),x.since+x.req.limit) else b):=rfl
theorem y4 {all:List Sv} {n:Int}:∀{l:List Sv} {k:Nat} {a:Int},li all n k a l=true→∀x∈l,0≤x.at_∧x.at_≤n
 | [],_,_,_=>by simp
 | s :: l,k,a,h=>by
  simp only [li,Bool.and_eq_true,decide_eq_true_eq] at h
  intro x hx
  rcases List.mem_cons.1 hx with rfl|hx
  ·exact ⟨h.1.1.1.1.2,h.1.1.1.2⟩
  ·exact y4 h.2 x hx
theorem CP {l:List En} {s:List Sv} (h:jk l s=true):∀x∈s,0≤x.at_∧x.at_≤l.length:=by
 simp only [jk,Bool.and_eq_true] at h
 exact y4 h.2
theorem fY:∀(l:List En) (acc:List ByteArray),(c5 acc l).length≤acc.length+l.length
 | [],acc=>by simp [c5]
 | e :: l,acc=>by
  rw [i9]
  cases dB e.name acc with
  | true=>have:=fY l acc;simp;omega
  | false=>have:=fY l (gl e.name acc);rw [iv] at this;simp;omega
def JZ (R:Lg×List Tm×Int):TV:=.tup [R.1.a,.one (.sl bV R.2.1),.one (.sc (.int .i64 R.2.2))]
def jo (n:ByteArray) (E:List En) (i:Nat) (s:Sv):Sv:=⟨s.label,s.at_-((E.take (min i s.at_.toNat)).countP fun e=>!oth n e:Nat)⟩
theorem CQ (n:ByteArray) (E:List En) (s:Sv):jo n E 0 s=s:=by
 cases s;simp [jo]
theorem CR {n:ByteArray} {E:List En} {i:Nat} (hi:i<E.length) (h:oth n E[i]=true) (s:Sv):jo n E (i+1) s=jo n E i s:=by
 unfold jo
 by_cases hs:s.at_.toNat≤i
 ·rw [Nat.min_eq_right hs,Nat.min_eq_right (by omega)]
 ·rw [Nat.min_eq_left (by omega),Nat.min_eq_left (by omega),List.take_succ_eq_append_getElem hi,List.countP_append]
  simp [h]
theorem Fb {n:ByteArray} {E:List En} {i:Nat} {s:Sv} (hs:s.at_≤i):jo n E (i+1) s=jo n E i s:=by
 unfold jo
 rw [Nat.min_eq_right (by omega),Nat.min_eq_right (by omega)]
theorem CS {n:ByteArray} {E:List En} {i:Nat} (hi:i<E.length) (h:oth n E[i]=false) {s:Sv} (hs:(i:Int)<s.at_):jo n E (i+1) s=⟨s.label,(jo n E i s).at_-1⟩:=by
 unfold jo
 rw [Nat.min_eq_left (by omega),Nat.min_eq_left (by omega),List.take_succ_eq_append_getElem hi,List.countP_append]
 simp [h]
 omega
theorem Fc {n:ByteArray} {E:List En} {s:Sv} (h0:0≤s.at_) (h1:s.at_≤E.length):jo n E E.length s=⟨s.label,((E.take s.at_.toNat).filter (oth n)).length⟩:=by
 unfold jo
 rw [Nat.min_eq_right (by omega),←List.countP_eq_length_filter]
 have h2:=List.length_eq_countP_add_countP (oth n) (l:=E.take s.at_.toNat)
 have h3:(E.take s.at_.toNat).length=s.at_.toNat:=by simp;omega
 congr 1
 have h4:(fun a=>decide ¬oth n a=true)=fun e=>!oth n e:=by funext e;cases oth n e <;> rfl
 rw [h4] at h2
 omega
theorem xS {n:ByteArray} {E:List En} {i:Nat} {s:Sv} (h0:0≤s.at_):0≤(jo n E i s).at_∧(jo n E i s).at_≤s.at_:=by
 unfold jo
 have:=List.countP_le_length (p:=fun e=>!oth n e) (l:=E.take (min i s.at_.toNat))
 rw [List.length_take] at this
 dsimp only
 omega
def y5 (n:ByteArray) (E:List En) (S:List Sv) (i k:Nat):List Sv:=(S.take k).map (jo n E (i+1))++(S.drop k).map (jo n E i)
theorem uf {n:ByteArray} {E:List En} {S:List Sv} {i k:Nat}:(y5 n E S i k).length=S.length:=by simp [y5];omega
theorem CT {n:ByteArray} {E:List En} {S:List Sv} {i:Nat}:y5 n E S i 0=S.map (jo n E i):=by simp [y5]
theorem Fd {n:ByteArray} {E:List En} {S:List Sv} {i k:Nat} (h:S.length≤k):y5 n E S i k=S.map (jo n E (i+1)):=by simp [y5,List.take_of_length_le h,List.drop_eq_nil_of_le h]
theorem ug {n:ByteArray} {E:List En} {S:List Sv} {i k:Nat} (h:k≤S.length) (j:Nat):(y5 n E S i k)[j]? = S[j]?.map fun s=>if j<k then jo n E (i+1) s else jo n E i s:=by
 have hl:((S.take k).map (jo n E (i+1))).length=k:=by rw [List.length_map,List.length_take];omega
 unfold y5
 by_cases hj:j<k
 ·rw [List.getElem?_append_left (by omega),List.getElem?_map,List.getElem?_take_of_lt hj]
  simp [hj]
 ·rw [List.getElem?_append_right (by omega),hl,List.getElem?_map,List.getElem?_drop,show k+(j-k)=j by omega]
  simp [hj]
theorem CU {n:ByteArray} {E:List En} {S:List Sv} {i k:Nat} (h:k<S.length):(y5 n E S i k)[k]? = some (jo n E i S[k]):=by
 rw [ug (by omega)]
 simp [h]
theorem y6 {n:ByteArray} {E:List En} {S:List Sv} {i k:Nat} (h:k<S.length) {z:Sv} (hz:jo n E (i+1) S[k]=z):(y5 n E S i k).set k z=y5 n E S i (k+1):=by
 subst hz
 apply List.ext_getElem?
 intro j
 rw [List.getElem?_set,uf,ug (by omega),ug (by omega)]
 by_cases hj:k=j
 ·subst hj
  simp [h]
 ·rw [if_neg hj]
  have:(j<k↔j<k+1):=by omega
  simp [this]
theorem CV {n:ByteArray} {E:List En} {S:List Sv} {i k:Nat} (h:k<S.length) (hz:jo n E (i+1) S[k]=jo n E i S[k]):y5 n E S i k=y5 n E S i (k+1):=by
 rw [←y6 h rfl,hz]
 apply List.ext_getElem?
 intro j
 rw [List.getElem?_set]
 by_cases hj:k=j
 ·subst hj
  rw [CU h,uf]
  simp [h]
 ·rw [if_neg hj]
def IW (R:Lg×Bool):TV:=.tup [R.1.a,.one (.sc (.bool R.2))]
structure Kp (w w':Wk):Prop where
 kw:KW w.c.procs w'.c.procs
 now:w'.c.now=w.c.now
 pr:w'.c.procs.map (·.proc)=w.c.procs.map (·.proc)
 nm:es w'.c.queues=es w.c.queues
theorem Kp.trans {a b c:Wk} (h:Kp a b) (k:Kp b c):Kp a c:=⟨h.kw.trans k.kw,k.now.trans h.now,k.pr.trans h.pr,k.nm.trans h.nm⟩
theorem Kp.len {a b:Wk} (h:Kp a b):b.c.procs.length=a.c.procs.length:=by have:=congrArg List.length h.pr;simpa using this
theorem iz {w:Wk} (h:CI w.c):CI (br w).c∧(∀x∈(br w).c.procs,eu (br w).c.queues x=false)∧Kp w (br w):=by
 obtain ⟨h1,h2,h3,h4,_,h6,_,h8⟩:=iy h
 exact ⟨h1,h2,h6,h4,h3,h8⟩
theorem iA {w:Wk} (h:CI w.c):KN w.c.procs (br w).c.procs:=(iy h).2.2.2.2.2.2.1
def KO (p:Pr) (l l':List Pc):Prop:=∀x∈l,x.proc≠p→∃x'∈l',GrP x x'
theorem KO.then {p:Pr} {a b c:List Pc} (h:KO p a b) (k:KG b c):KO p a c:=fun x hx hp=>by
 obtain ⟨y,hy,h1⟩:=h x hx hp
 obtain ⟨z,hz,h2⟩:=k y hy
 exact ⟨z,hz,h1.trans h2⟩
theorem KO.pre {p:Pr} {a b c:List Pc} (h:KG a b) (k:KO p b c):KO p a c:=fun x hx hp=>by
 obtain ⟨y,hy,h1⟩:=h x hx
 obtain ⟨z,hz,h2⟩:=k y hy (by rw [h1.proc];exact hp)
 exact ⟨z,hz,h1.trans h2⟩
theorem KO.set {p:Pr} {l:List Pc} {i:Nat} (hi:i<l.length) (hp:l[i].proc=p) (y:Pc):KO p l (l.set i y):=fun x hx hxp=>by
 obtain ⟨j,hj,e⟩:=List.mem_iff_getElem.1 hx
 have hji:j≠i:=fun e2=>by subst e2;rw [e] at hp;exact hxp hp
 refine ⟨x,List.mem_iff_getElem.2 ⟨j,by simpa using hj,?_⟩,GrP.refl x⟩
 rw [List.getElem_set_ne (fun e2=>hji e2.symm)]
 exact e
theorem GrP.led {x y:Pc} (hp:y.proc=x.proc) (hl:y.led=x.led):GrP x y:=⟨hp,⟨[],by rw [hl];simp⟩,by rw [hl]⟩
theorem uh {w:Wk} {i:Nat} (hi:i<w.c.procs.length):KG w.c.procs (bf w i).c.procs:=by
 have hps:(bf w i).c.procs=w.c.procs.set i { w.pc i with gen:=aQ (w.pc i).gen }:=rfl
 rw [hps]
 exact KG.set hi (GrP.led (by rw [bv hi]) (by rw [bv hi]))
theorem fm {l:List Pc} {i:Nat} (hi:i<l.length) {y:Pc} (hp:y.proc=l[i].proc):(l.set i y).map (·.proc)=l.map (·.proc):=by
 rw [List.map_set]
 apply List.ext_getElem
 ·simp
 ·intro j h1 h2
  rw [List.getElem_set]
  split
  ·next e=>subst e;simp [hp]
  ·rfl
theorem c7 {w:Wk} {i:Nat} (h:CI w.c) (hi:i<w.c.procs.length) (hw:(w.pc i).waiting=true) :
  CI (aC w i).c∧ce (aC w i).c.procs+1=ce w.c.procs∧Kp w (aC w i)∧(aC w i).c.procs=w.c.procs.set i { w.pc i with waiting:=false,req:=Rq.zero,since:=0 }∧∀n,aO (aC w i).c.queues n=true→FitR (aC w i).c.queues n (w.pc i):=by
 have hpc:=bv hi
 have hinv:=h.inv _ (List.getElem_mem hi)
 rw [←hpc] at hinv
 obtain ⟨hwt,hfit⟩:=hinv.wat hw
 obtain ⟨hve,hrsl⟩:=nC hwt.rs
 obtain ⟨hws,hfr,hdt⟩:=qm (cj (w.pc i).req.expr) w (w.pc i) h.tv hinv.stat (lT _) hrsl hfit
 have e:aC w i=gI (c9 (w.pc i) (cj (w.pc i).req.expr) w) i:=rfl
 generalize hg:c9 (w.pc i) (cj (w.pc i).req.expr) w=g at *
 rw [e]
 have hgi:i<g.c.procs.length:=by rw [hws.procs];exact hi
 have hgp:g.pc i=w.pc i:=by unfold Wk.pc;rw [hws.procs]
 have hps:(gI g i).c.procs=w.c.procs.set i { w.pc i with waiting:=false,req:=Rq.zero,since:=0 }:=by
  unfold gI Wk.setP
  rw [hgp]
  show g.c.procs.set i _=_
  rw [hws.procs]
 have hfin:PInv g.c.queues g.c.now { w.pc i with waiting:=false,req:=Rq.zero,since:=0 }:=wt (hinv.stat.tp hws.tp) fun n hn=>hfr n (by rw [hws.tp.hasE] at hn;exact hn)
 refine ⟨h.upd (c':=(gI g i).c) hi hps hws.now (by rw [hpc]) hws.tp hfin,?_,⟨by rw [hps];exact KW.set rfl,hws.now,by rw [hps];exact fm hi (by rw [hpc]),hws.tp.nm⟩,hps,fun n hn=>hfr n (by
  have h5:aO g.c.queues n=true:=hn
  rw [hws.tp.hasE] at h5
  exact h5)⟩
 rw [hps]
 exact sM hi (by rw [←hpc];exact hw) rfl
theorem gY {w:Wk} {i:Nat} (h:CI w.c) (hi:i<w.c.procs.length) (hw:(w.pc i).waiting=false):CI (bf w i).c∧Kp w (bf w i)∧ce (bf w i).c.procs=ce w.c.procs:=by
 have hpc:=bv hi
 have hinv:=h.inv _ (List.getElem_mem hi)
 rw [←hpc] at hinv
 have hps:(bf w i).c.procs=w.c.procs.set i { w.pc i with gen:=aQ (w.pc i).gen }:=rfl
 refine ⟨h.upd (c':=(bf w i).c) hi hps rfl (by rw [hpc]) (TP.refl h.tv _) (hinv.regen _),⟨by rw [hps];exact KW.set hw,rfl,by rw [hps];exact fm hi (by rw [hpc]),rfl⟩,?_⟩
 rw [hps]
 unfold ce
 have gen:∀(l:List Pc) (i:Nat) (y:Pc),(∀h:i<l.length,l[i].waiting=y.waiting)→((l.set i y).filter (·.waiting)).length=(l.filter (·.waiting)).length:=by
  intro l
  induction l with
  | nil=>intro i y _;rfl
  | cons x l ih =>
   intro i y hxy
   cases i with
   | zero =>
    have:x.waiting=y.waiting:=hxy (by simp)
    rw [List.set_cons_zero,List.filter_cons,List.filter_cons,this]
    cases y.waiting <;> rfl
   | succ i =>
    have:=ih i y (fun h=>by have:=hxy (by simpa using h);simpa using this)
    rw [List.set_cons_succ,List.filter_cons,List.filter_cons]
    cases x.waiting with
    | true=>rw [if_pos rfl,if_pos rfl,List.length_cons,List.length_cons,this]
    | false=>rw [if_neg (by simp),if_neg (by simp),this]
 exact gen _ _ _ fun h=>by rw [←hpc]
theorem xT {w:Wk} {i:Nat} (h:CI w.c) (hi:i<w.c.procs.length) (hw:(w.pc i).waiting=true):DrT (w.pc i) (cj (w.pc i).req.expr) w:=by
 have hpc:=bv hi
 have hinv:=h.inv _ (List.getElem_mem hi)
 rw [←hpc] at hinv
 obtain ⟨hwt,hfit⟩:=hinv.wat hw
 obtain ⟨hve,hrsl⟩:=nC hwt.rs
 exact (qm (cj (w.pc i).req.expr) w (w.pc i) h.tv hinv.stat (lT _) hrsl hfit).2.2
def Jt (w:Wk) (i:Nat) (r:Rq):Wk:=bf (w.setP i { w.pc i with waiting:=true,req:=r,since:=w.c.now }) i
def CW (w:Wk) (i:Nat) (r:Rq):Wk:=cE (w.pc i).proc r.prio (cj r.expr) (Jt w i r)
theorem ox {w:Wk} {i:Nat} {r:Rq} (h:CI w.c) (hi:i<w.c.procs.length) (hw:(w.pc i).waiting=false) (hq:oM r=true) (hr:go w.c.queues r.expr=0) :
  CI (CW w i r).c∧(CW w i r).c.procs=w.c.procs.set i { w.pc i with waiting:=true,req:=r,since:=w.c.now,gen:=aQ (w.pc i).gen }∧(CW w i r).c.now=w.c.now∧es (CW w i r).c.queues=es w.c.queues:=by
 have hpc:=bv hi
 unfold CW Jt
 have hinv:=h.inv _ (List.getElem_mem hi)
 rw [←hpc] at hinv
 obtain ⟨_,_,hrun⟩:=hinv.run hw
 obtain ⟨hve,hrsl⟩:=nC hr
 have hx:bf (w.setP i { w.pc i with waiting:=true,req:=r,since:=w.c.now }) i=w.setP i { w.pc i with waiting:=true,req:=r,since:=w.c.now,gen:=aQ (w.pc i).gen }:=by
  unfold bf
  rw [fk hi,fG]
 rw [hx]
 have hst:PStat w.c.queues { w.pc i with waiting:=true,req:=r,since:=w.c.now,gen:=aQ (w.pc i).gen }:=⟨hinv.stat.vp,hinv.stat.cost,hinv.stat.led,by have:=mr (n:=(w.pc i).gen);show 0≤aQ (w.pc i).gen∧aQ (w.pc i).gen≤1073741824;omega,hinv.stat.hf⟩
 have hprio:0≤r.prio∧r.prio≤7:=by unfold oM at hq;simp only [Bool.and_eq_true,decide_eq_true_eq] at hq;exact ⟨hq.1.1.1.2,hq.1.1.2⟩
 obtain ⟨hws,hfw,_⟩:=sJ (w.c.procs.map (fun x:Pc=>x.proc)) (by simpa using h.len) (cj r.expr) [] (w.setP i { w.pc i with waiting:=true,req:=r,since:=w.c.now,gen:=aQ (w.pc i).gen }) { w.pc i with waiting:=true,req:=r,since:=w.c.now,gen:=aQ (w.pc i).gen } h.tv hst (List.mem_map.2 ⟨_,List.getElem_mem hi,by rw [←hpc]⟩) h.cov hprio (lT _) hrsl
  (fun n hn=>by
   have h1:FitR w.c.queues n { w.pc i with waiting:=true,req:=r,since:=w.c.now,gen:=aQ (w.pc i).gen }:=(hrun n hn).led rfl rfl
   refine ⟨fun h2=>?_,fun a _=>h1⟩
   unfold FitW
   rw [List.nil_append,h2]
   exact h1)
 rw [List.nil_append] at hfw
 have e:cE (w.pc i).proc r.prio (cj r.expr) (w.setP i { w.pc i with waiting:=true,req:=r,since:=w.c.now,gen:=aQ (w.pc i).gen })=cE ({ w.pc i with waiting:=true,req:=r,since:=w.c.now,gen:=aQ (w.pc i).gen }:Pc).proc ({ w.pc i with waiting:=true,req:=r,since:=w.c.now,gen:=aQ (w.pc i).gen }:Pc).req.prio (cj r.expr) (w.setP i { w.pc i with waiting:=true,req:=r,since:=w.c.now,gen:=aQ (w.pc i).gen }):=rfl
 rw [e]
 generalize cE ({ w.pc i with waiting:=true,req:=r,since:=w.c.now,gen:=aQ (w.pc i).gen }:Pc).proc ({ w.pc i with waiting:=true,req:=r,since:=w.c.now,gen:=aQ (w.pc i).gen }:Pc).req.prio (cj r.expr) (w.setP i { w.pc i with waiting:=true,req:=r,since:=w.c.now,gen:=aQ (w.pc i).gen })=g at *
 have hps:g.c.procs=w.c.procs.set i { w.pc i with waiting:=true,req:=r,since:=w.c.now,gen:=aQ (w.pc i).gen }:=hws.procs
 have hnow:g.c.now=w.c.now:=hws.now
 have hpv:PInv g.c.queues g.c.now { w.pc i with waiting:=true,req:=r,since:=w.c.now,gen:=aQ (w.pc i).gen }:=by
  refine ⟨hst.tp hws.tp,fun hf=>(by cases hf),fun _=>⟨⟨hq,?_,?_⟩,fun n hn=>?_⟩⟩
  ·rw [yX hws.tp];exact hr
  ·rw [hnow];exact ⟨h.now.1,Int.le_refl _⟩
  ·exact hfw n (by rw [hws.tp.hasE] at hn;exact hn)
 have hci:=h.upd (c':=g.c) hi hps hnow (by rw [hpc]) hws.tp hpv
 exact ⟨hci,hps,hnow,hws.tp.nm⟩
theorem qu {w:Wk} {i:Nat} {r:Rq} (h:CI w.c) (hi:i<w.c.procs.length) (he:(cP w i r).2=0) :
  CI (cP w i r).1.c∧(∀x∈(cP w i r).1.c.procs,eu (cP w i r).1.c.queues x=false)∧(cP w i r).1.c.now=w.c.now∧(cP w i r).1.c.procs.map (·.proc)=w.c.procs.map (·.proc)∧(∀x∈(cP w i r).1.c.procs,x.waiting=true→x∈w.c.procs∨(x = { w.pc i with waiting:=true,req:=r,since:=w.c.now,gen:=aQ (w.pc i).gen }))∧KG w.c.procs (cP w i r).1.c.procs∧es (cP w i r).1.c.queues=es w.c.queues:=by
 unfold cP at he ⊢
 cases hw:(w.pc i).waiting with
 | true=>rw [hw] at he;simp at he
 | false =>
  rw [hw] at he
  simp only [cond_false] at he ⊢
  cases hq:oM r with
  | false=>rw [hq] at he;simp at he
  | true =>
   rw [hq] at he
   simp only [Bool.not_true,cond_false] at he ⊢
   by_cases hr:go w.c.queues r.expr=0
   ·rw [decide_eq_true hr]
    simp only [Bool.not_true,cond_false]
    have hpc:=bv hi
    obtain ⟨hci,hps,hnow,hnm⟩:=ox h hi hw hq hr
    have e:cE (w.pc i).proc r.prio (cj r.expr) (bf (w.setP i { w.pc i with waiting:=true,req:=r,since:=w.c.now }) i)=CW w i r:=rfl
    rw [e]
    generalize CW w i r=g at *
    obtain ⟨k1,k2,k3⟩:=iz hci
    refine ⟨k1,k2,k3.now.trans hnow,k3.pr.trans (by rw [hps];exact fm hi (by rw [hpc])),fun x hx hxw=>?_,KG.trans (by rw [hps];exact KG.set hi (GrP.led (by rw [hpc]) (by rw [hpc]))) (iA hci).gr,k3.nm.trans hnm⟩
    have h5:=k3.kw x hx hxw
    rw [hps] at h5
    rcases List.mem_or_eq_of_mem_set h5 with h6|rfl
    ·exact .inl h6
    ·exact .inr rfl
   ·rw [decide_eq_false hr] at he
    simp only [Bool.not_false,cond_true] at he
    exact absurd he hr
theorem AH {g:Lg} (h:Ld g) {n:ByteArray} (hn:az g.entries n≠⟨0,0⟩):(ip g n).1=fT g n:=by
 have hne:(fT g n).entries.length≠g.entries.length:=by
  intro e
  have h1:g.entries.filter (oth n)=g.entries:=List.Sublist.eq_of_length List.filter_sublist e
  have h2:=gm n n g.entries
  rw [h1,if_pos rfl] at h2
  exact hn h2
 unfold ip
 rw [fc.2 h,decide_eq_false hne]
 rfl
def rr (w:Wk) (i:Nat) (n:ByteArray):Wk:=bf ((fe w (w.pc i).proc ⟨n,⟨0,0⟩⟩).setP i { w.pc i with led:=(ip (w.pc i).led n).1 }) i
theorem oy {w:Wk} {i:Nat} {n:ByteArray} (h:CI w.c) (hi:i<w.c.procs.length) (hw:(w.pc i).waiting=false) (h0:az (w.pc i).led.entries n≠⟨0,0⟩) :
  CI (rr w i n).c∧(rr w i n).c.procs=w.c.procs.set i { w.pc i with led:=fT (w.pc i).led n,gen:=aQ (w.pc i).gen }∧(rr w i n).c.now=w.c.now∧es (rr w i n).c.queues=es w.c.queues:=by
 have hpc:=bv hi
 unfold rr
 have hinv:=h.inv _ (List.getElem_mem hi)
 rw [←hpc] at hinv
 obtain ⟨hrq,hsn,hrun⟩:=hinv.run hw
 obtain ⟨hn,hfit⟩:=hinv.stat.hf n h0
 have hfr:=hrun n hn
 have hcov:bb (aX w.c.queues n).res (aq (aX w.c.queues n).holds (w.pc i).proc) ⟨0,0⟩=true:=by
  rw [hfr.h]
  have p0:be (aX w.c.queues n).res ⟨0,0⟩=true:=by unfold be aG;rw [ku h.tv hn];rfl
  unfold bb
  rw [cJ hfit,p0]
  rfl
 obtain ⟨_,hst,k1,k2⟩:=nz (p:=(w.pc i).proc) (a:=⟨n,⟨0,0⟩⟩) h.tv hn (by rw [hfr.h];exact h0) hfr.w hcov
 have hws:WS w (fe w (w.pc i).proc ⟨n,⟨0,0⟩⟩) (w.pc i).proc (· = n):=WS.take h.tv hst
 generalize hg:fe w (w.pc i).proc ⟨n,⟨0,0⟩⟩=g at *
 have hgq:g.c.queues=(cy w.c.queues (w.pc i).proc ⟨n,⟨0,0⟩⟩).1:=by rw [←hg];rfl
 rw [←hgq] at k1 k2
 have hgi:i<g.c.procs.length:=by rw [hws.procs];exact hi
 have hgp:g.pc i=w.pc i:=by unfold Wk.pc;rw [hws.procs]
 have hdr:=AH hinv.stat.led h0
 have hx:bf (g.setP i { w.pc i with led:=(ip (w.pc i).led n).1 }) i=g.setP i { w.pc i with led:=fT (w.pc i).led n,gen:=aQ (w.pc i).gen }:=by
  unfold bf
  rw [fk hgi,fG,hdr]
 rw [hx]
 have hlh:∀m,fZ { w.pc i with led:=fT (w.pc i).led n,gen:=aQ (w.pc i).gen } m=if m=n then ⟨0,0⟩ else fZ (w.pc i) m:=fun m=>gm n m _
 have hps:(g.setP i { w.pc i with led:=fT (w.pc i).led n,gen:=aQ (w.pc i).gen }).c.procs=w.c.procs.set i { w.pc i with led:=fT (w.pc i).led n,gen:=aQ (w.pc i).gen }:=by
  show g.c.procs.set i _=_
  rw [hws.procs]
 have hpv:PInv g.c.queues g.c.now { w.pc i with led:=fT (w.pc i).led n,gen:=aQ (w.pc i).gen }:=by
  refine ⟨⟨hinv.stat.vp,hinv.stat.cost,EU hinv.stat.led n,by have:=mr (n:=(w.pc i).gen);show 0≤aQ (w.pc i).gen∧aQ (w.pc i).gen≤1073741824;omega,fun m hm=>?_⟩,fun _=>⟨hrq,hsn,fun m hm=>?_⟩,fun hf=>by
   have:(w.pc i).waiting=true:=hf
   rw [hw] at this
   cases this⟩
  ·rw [hlh] at hm ⊢
   by_cases e:m=n
   ·rw [if_pos e] at hm;exact absurd rfl hm
   ·rw [if_neg e] at hm ⊢
    exact (hinv.stat.tp hws.tp).hf m hm
  ·rw [hws.tp.hasE] at hm
   by_cases e:m=n
   ·subst e
    exact ⟨by rw [hlh,if_pos rfl];exact k1,k2⟩
   ·have e1:=hws.oth m e hm
    exact ((hrun m hm).eq e1).led rfl (by rw [hlh,if_neg e])
 have hci:=h.upd (c':=(g.setP i { w.pc i with led:=fT (w.pc i).led n,gen:=aQ (w.pc i).gen }).c) hi hps hws.now (by rw [hpc]) hws.tp hpv
 exact ⟨hci,hps,hws.now,hws.tp.nm⟩
theorem qv {w:Wk} {i:Nat} {n:ByteArray} (h:CI w.c) (hi:i<w.c.procs.length) (he:(dY w i n).2=0) :
  CI (dY w i n).1.c∧(∀x∈(dY w i n).1.c.procs,eu (dY w i n).1.c.queues x=false)∧Kp w (dY w i n).1∧KO (w.pc i).proc w.c.procs (dY w i n).1.c.procs:=by
 unfold dY at he ⊢
 cases hw:(w.pc i).waiting with
 | true=>rw [hw] at he;simp at he
 | false =>
  rw [hw] at he
  simp only [cond_false] at he ⊢
  by_cases h0:az (w.pc i).led.entries n=⟨0,0⟩
  ·rw [decide_eq_true h0] at he;simp at he
  ·rw [decide_eq_false h0]
   simp only [cond_false]
   have hpc:=bv hi
   obtain ⟨hci,hps,hnow,hnm⟩:=oy h hi hw h0
   have e:bf ((fe w (w.pc i).proc ⟨n,⟨0,0⟩⟩).setP i { (fe w (w.pc i).proc ⟨n,⟨0,0⟩⟩).pc i with led:=(ip ((fe w (w.pc i).proc ⟨n,⟨0,0⟩⟩).pc i).led n).1 }) i=rr w i n:=rfl
   rw [e]
   generalize rr w i n=g at *
   obtain ⟨q1,q2,q3⟩:=iz hci
   have hk:Kp w g:=⟨by rw [hps];exact KW.set hw,hnow,by rw [hps];exact fm hi (by rw [hpc]),hnm⟩
   exact ⟨q1,q2,hk.trans q3,KO.then (by rw [hps];exact KO.set hi (by rw [hpc]) _) (iA hci).gr⟩
end Go.Proofs.YtjndcdcbjidocaaGreatDoor
