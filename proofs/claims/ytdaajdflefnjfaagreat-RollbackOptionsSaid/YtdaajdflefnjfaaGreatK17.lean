/- Part 17 of 24 of the proof of rollbackOptions_holds (no condition). -/
import Derived.Test.YtdaajdflefnjfaaGreatK16
import Derived.Test.YtdaajdflefnjfaaGreatK15
set_option linter.unusedVariables false
set_option linter.unusedSimpArgs false
set_option maxRecDepth 100000
set_option maxHeartbeats 64000000
namespace Go.Proofs.YtdaajdflefnjfaaGreat
open Go.RowKit Go.Proofs.Tryz
theorem EL {α:Type} {R:α→α→Prop} (irr:∀a,¬R a a) (asy:∀a b,R a b→¬R b a):∀{l l':List α},l.Pairwise R→l'.Pairwise R→(∀x,x∈l↔x∈l')→l=l'
 | [],[],_,_,_=>rfl
 | [],b :: m,_,_,h=>absurd ((h b).2 (by simp)) (by simp)
 | a :: l,[],_,_,h=>absurd ((h a).1 (by simp)) (by simp)
 | a :: l,b :: m,h1,h2,h=>by
  obtain ⟨k1,k2⟩:=List.pairwise_cons.1 h1
  obtain ⟨k3,k4⟩:=List.pairwise_cons.1 h2
  have hab:a=b:=by
   rcases List.mem_cons.1 ((h a).1 (by simp)) with e|e
   ·exact e
   ·rcases List.mem_cons.1 ((h b).2 (by simp)) with e2|e2
    ·exact e2.symm
    ·exact absurd (k1 b e2) (asy b a (k3 a e))
  subst hab
  congr 1
  refine EL irr asy k2 k4 fun x=>⟨fun hx=>?_,fun hx=>?_⟩
  ·rcases List.mem_cons.1 ((h x).1 (by simp [hx])) with e|e
   ·subst e;exact absurd (k1 x hx) (irr x)
   ·exact e
  ·rcases List.mem_cons.1 ((h x).2 (by simp [hx])) with e|e
   ·subst e;exact absurd (k3 x hx) (irr x)
   ·exact e
def Kv (a b:Tm):Prop:=fD a.name b.name=true
theorem Hi (a:Tm):¬Kv a a:=fun h=>by unfold Kv at h;rw [dt] at h;cases h
theorem Hj (a b:Tm) (h:Kv a b):¬Kv b a:=fun k=>by
 have:=eh h k
 rw [dt] at this
 cases this
theorem jl {g:Lg} {a:Tm}:a∈iv g↔ay g.entries a.name=a.am∧a.am≠⟨0,0⟩:=by
 unfold iv
 rw [List.mem_filter,List.mem_map]
 constructor
 ·rintro ⟨⟨m,_,rfl⟩,h⟩
  rw [Bool.not_eq_true',bq] at h
  exact ⟨rfl,h⟩
 ·rintro ⟨h1,h2⟩
  refine ⟨⟨a.name,?_,by rw [h1]⟩,by rw [Bool.not_eq_true',bq];exact h2⟩
  refine Classical.byContradiction fun hn=>h2 ?_
  rw [←h1]
  exact fX a.name g.entries ⟨0,0⟩ fun e he e2=>hn (du.2 ⟨e,he,e2⟩)
theorem CH (g:Lg):(iv g).Pairwise Kv:=by
 unfold iv
 refine List.Pairwise.sublist List.filter_sublist ?_
 rw [List.pairwise_map]
 exact fU g.entries
theorem pG {t:List Qu} {p:Pr} {a:Tm}:a∈gD t p↔(∃q∈t,q.res.name=a.name∧aj q.holds p=a.am)∧a.am≠⟨0,0⟩:=by
 unfold gD
 rw [List.mem_filter,List.mem_map,Bool.not_eq_true',bq]
 constructor
 ·rintro ⟨⟨q,hq,rfl⟩,h⟩
  exact ⟨⟨q,hq,rfl,rfl⟩,h⟩
 ·rintro ⟨⟨q,hq,h1,h2⟩,h⟩
  exact ⟨⟨q,hq,by rw [h1,h2]⟩,h⟩
theorem CJ {t:List Qu} (hv:eO t=true) (p:Pr):(gD t p).Pairwise Kv:=by
 unfold gD
 refine List.Pairwise.sublist List.filter_sublist ?_
 rw [List.pairwise_map]
 have:=(nX (cr hv).2.1).1
 unfold gz at this
 rw [List.pairwise_map] at this
 exact this
theorem lD {p:Pr}:∀{t:List Qu},cE p t=[]↔∀q∈t,ai q p=none
 | []=>by simp [cE]
 | q :: t=>by
  unfold cE
  cases hw:ai q p with
  | some a =>
   constructor
   ·intro h;cases h
   ·intro h;have:=h q (by simp);rw [hw] at this;cases this
  | none =>
   dsimp only
   rw [lD]
   constructor
   ·intro h x hx
    rcases List.mem_cons.1 hx with rfl|hx
    ·exact hw
    ·exact h x hx
   ·intro h x hx;exact h x (by simp [hx])
theorem Bi {t:List Qu} {x:Pc} (hv:eO t=true) (hf:∀n,iQ x n≠⟨0,0⟩→aU t n=true):(iv x.led=gD t x.proc∧cE x.proc t=[])↔∀n,aU t n=true→FitR t n x:=by
 constructor
 ·rintro ⟨h1,h2⟩ n hn
  obtain ⟨hm,hnm⟩:=dH hn
  refine ⟨?_,lD.1 h2 _ hm⟩
  by_cases h0:aj (bd t n).holds x.proc=⟨0,0⟩
  ·rw [h0]
   refine Classical.byContradiction fun hne=>?_
   have h3:(⟨n,iQ x n⟩:Tm)∈iv x.led:=jl.2 ⟨rfl,fun e=>hne e.symm⟩
   rw [h1,pG] at h3
   obtain ⟨⟨q,hq,e1,e2⟩,_⟩:=h3
   have h4:=(ol hv hq).2
   rw [show q.res.name=n from e1] at h4
   rw [h4,e2] at h0
   exact hne h0.symm
  ·have h3:(⟨n,aj (bd t n).holds x.proc⟩:Tm)∈gD t x.proc:=pG.2 ⟨⟨_,hm,hnm,rfl⟩,h0⟩
   rw [←h1,jl] at h3
   exact h3.1.symm
 ·intro h
  refine ⟨EL Hi Hj (CH x.led) (CJ hv x.proc) fun a=>?_,lD.2 fun q hq=>?_⟩
  ·rw [jl,pG]
   constructor
   ·rintro ⟨h1,h2⟩
    have hn:aU t a.name=true:=hf a.name (by show ay x.led.entries a.name≠_;rw [h1];exact h2)
    obtain ⟨hm,hnm⟩:=dH hn
    exact ⟨⟨_,hm,hnm,by rw [(h a.name hn).h];exact h1⟩,h2⟩
   ·rintro ⟨⟨q,hq,e1,e2⟩,h2⟩
    obtain ⟨hn,hqa⟩:=ol hv hq
    rw [e1] at hn hqa
    have:=(h a.name hn).h
    rw [hqa,e2] at this
    exact ⟨this.symm,h2⟩
  ·obtain ⟨hn,hqa⟩:=ol hv hq
   have:=(h _ hn).w
   rw [hqa] at this
   exact this
theorem ov {α:Type} {o:Option α}:o.isSome=false↔o=none:=by cases o <;> simp
theorem qB {t:List Qu} {q:Qu} {x:Pc} (hq:bd t q.res.name=q):(decide (aj q.holds x.proc=ay x.led.entries q.res.name) && !(ai q x.proc).isSome)=true↔FitR t q.res.name x:=by
 rw [Bool.and_eq_true,decide_eq_true_eq,Bool.not_eq_true',ov]
 constructor
 ·rintro ⟨h1,h2⟩;exact ⟨by rw [hq];exact h1,by rw [hq];exact h2⟩
 ·rintro ⟨h1,h2⟩;rw [hq] at h1 h2;exact ⟨h1,h2⟩
theorem qC {q:Qu} {x:Pc}:∀{l:List Tm},(∀a∈l,a.name≠q.res.name)→dG q x l=(decide (aj q.holds x.proc=ay x.led.entries q.res.name) && !(ai q x.proc).isSome)
 | [],_=>rfl
 | a :: l,h=>by
  unfold dG
  rw [cc.2 (h a (by simp)),Bool.not_false,Bool.true_or,cond_true]
  exact qC fun b hb=>h b (by simp [hb])
theorem mY {t:List Qu} {q:Qu} {x:Pc} (hq:bd t q.res.name=q):∀{l:List Tm},Hd l→(dG q x l=true↔FitW t q.res.name x l)
 | [],_=>by
  unfold dG FitW
  exact qB hq
 | a :: l,hn=>by
  obtain ⟨h1,h2⟩:=List.pairwise_cons.1 hn
  have ih:=mY (x:=x) hq h2
  unfold FitW at ih ⊢
  rw [dI]
  unfold dG
  cases hnm:aT a.name q.res.name with
  | false =>
   rw [Bool.not_false,Bool.true_or,cond_true,cond_false]
   exact ih
  | true =>
   have hname:=aV.1 hnm
   have hno:∀b∈l,b.name≠q.res.name:=fun b hb e=>h1 b hb (hname.trans e.symm)
   rw [Bool.not_true,Bool.false_or,cond_true]
   dsimp only
   unfold FitA jn
   rw [hq]
   cases hc:aY q.res (ay x.led.entries q.res.name) a.am with
   | true =>
    rw [cond_true,qC hno,qB hq]
    constructor
    ·intro h;exact .inl ⟨rfl,h⟩
    ·rintro (⟨_,h⟩|⟨h,_⟩)
     ·exact h
     ·cases h
   | false =>
    rw [cond_false]
    cases hw:ai q x.proc with
    | none =>
     simp only [Option.isSome_none,Bool.not_false,cond_true,decide_eq_true_eq]
     constructor
     ·intro h;exact .inr ⟨trivial,.inl ⟨h,trivial⟩⟩
     ·rintro (⟨h,_⟩|⟨_,⟨h,_⟩|⟨_,h,_⟩⟩)
      ·cases h
      ·exact h
      ·cases h
    | some b =>
     simp only [Option.isSome_some,Bool.not_true,cond_false]
     cases hp:q.waits.any (fun y=>decide (y.proc=x.proc) && !decide (y.prio=x.req.prio)) with
     | true =>
      rw [cond_true]
      constructor
      ·intro h;cases h
      ·rintro (⟨h,_⟩|⟨_,⟨_,h⟩|⟨_,_,h⟩⟩)
       ·cases h
       ·cases h
       ·rw [List.any_eq_true] at hp
        obtain ⟨y,hy,h3⟩:=hp
        simp only [Bool.and_eq_true,decide_eq_true_eq,Bool.not_eq_true',decide_eq_false_iff_not] at h3
        exact absurd (h y hy h3.1) h3.2
     | false =>
      rw [cond_false,Bool.and_eq_true,decide_eq_true_eq,decide_eq_true_eq]
      rw [List.any_eq_false] at hp
      constructor
      ·rintro ⟨h3,h4⟩
       refine .inr ⟨trivial,.inr ⟨h3,h4,fun y hy hyp=>?_⟩⟩
       have:=hp y hy
       simp only [Bool.and_eq_true,decide_eq_true_eq,Bool.not_eq_true',decide_eq_false_iff_not,not_and,Decidable.not_not] at this
       exact this hyp
      ·rintro (⟨h,_⟩|⟨_,⟨_,h⟩|⟨h3,h4,_⟩⟩)
       ·cases h
       ·cases h
       ·exact ⟨h3,h4⟩
def ur (c:Cs) (x:Pc):Prop:=x.waiting=true→(x.req.limit=0∨c.now<x.since+x.req.limit)∧ec c.queues x=false
theorem pH {c:Cs} {x:Pc} (hv:eO c.queues=true):qp c x=true↔PInv c.queues c.now x∧ur c x:=by
 have hhf:(iv x.led).all (fun a=>aU c.queues a.name && aC (bd c.queues a.name).res a.am)=true↔∀n,iQ x n≠⟨0,0⟩→aU c.queues n=true∧aC (bd c.queues n).res (iQ x n)=true:=by
  rw [List.all_eq_true]
  constructor
  ·intro h n hn
   have:=h ⟨n,iQ x n⟩ (jl.2 ⟨rfl,hn⟩)
   rw [Bool.and_eq_true] at this
   exact this
  ·intro h a ha
   obtain ⟨h1,h2⟩:=jl.1 ha
   have:=h a.name (by show ay x.led.entries a.name≠_;rw [h1];exact h2)
   rw [show iQ x a.name=a.am from h1] at this
   rw [Bool.and_eq_true]
   exact this
 unfold qp
 cases hw:x.waiting with
 | false =>
  simp only [Bool.not_false,cond_true,Bool.and_eq_true,decide_eq_true_eq,hhf,eS,GQ]
  constructor
  ·rintro ⟨⟨⟨⟨⟨⟨⟨h1,h2⟩,h3⟩,h4⟩,h5⟩,h6⟩,h7⟩,⟨⟨h8,h9⟩,h10⟩,h11⟩
   refine ⟨⟨⟨h1,⟨h2,h3⟩,h4,⟨h5,h6⟩,h7⟩,fun _=>⟨h8,h9,(Bi hv fun n hn=>(h7 n hn).1).1 ⟨h10,h11⟩⟩,fun h=>?_⟩,fun h=>?_⟩
   ·rw [hw] at h;cases h
   ·rw [hw] at h;cases h
  ·rintro ⟨⟨⟨h1,h2,h4,h5,h7⟩,h8,_⟩,_⟩
   obtain ⟨k1,k2,k3⟩:=h8 hw
   obtain ⟨k4,k5⟩:=(Bi hv fun n hn=>(h7 n hn).1).2 k3
   exact ⟨⟨⟨⟨⟨⟨⟨h1,h2.1⟩,h2.2⟩,h4⟩,h5.1⟩,h5.2⟩,h7⟩,⟨⟨k1,k2⟩,k4⟩,k5⟩
 | true =>
  have hfw:c.queues.all (fun q=>dG q x (cY x.req.expr))=true↔∀n,aU c.queues n=true→FitW c.queues n x (cY x.req.expr):=by
   rw [List.all_eq_true]
   constructor
   ·intro h n hn
    obtain ⟨hm,hnm⟩:=dH hn
    have h1:=(mY (t:=c.queues) (q:=bd c.queues n) (x:=x) (by rw [hnm]) (pC x.req.expr)).1 (h _ hm)
    rw [hnm] at h1
    exact h1
   ·intro h q hq
    obtain ⟨hn,hqa⟩:=ol hv hq
    exact (mY hqa (pC x.req.expr)).2 (h _ hn)
  have hsat:ec c.queues x=eV x.req.expr (br c.queues x.proc x.req.expr):=by unfold ec;rw [hw];rfl
  simp only [Bool.not_true,cond_false,Bool.and_eq_true,Bool.or_eq_true,decide_eq_true_eq,hhf,eS,hfw,Bool.not_eq_true',←hsat]
  constructor
  ·rintro ⟨⟨⟨⟨⟨⟨⟨h1,h2⟩,h3⟩,h4⟩,h5⟩,h6⟩,h7⟩,⟨⟨⟨⟨⟨h8,h9⟩,h10⟩,h11⟩,h12⟩,h13⟩,h14⟩
   refine ⟨⟨⟨h1,⟨h2,h3⟩,h4,⟨h5,h6⟩,h7⟩,fun h=>?_,fun _=>⟨⟨h8,h9,h10,h11⟩,h14⟩⟩,fun _=>⟨h12,h13⟩⟩
   rw [hw] at h;cases h
  ·rintro ⟨⟨⟨h1,h2,h4,h5,h7⟩,_,h8⟩,h9⟩
   obtain ⟨k1,k2⟩:=h8 hw
   obtain ⟨k3,k4⟩:=h9 hw
   exact ⟨⟨⟨⟨⟨⟨⟨h1,h2.1⟩,h2.2⟩,h4⟩,h5.1⟩,h5.2⟩,h7⟩,⟨⟨⟨⟨⟨k1.rq,k1.rs⟩,k1.sn.1⟩,k1.sn.2⟩,k3⟩,k4⟩,k2⟩
theorem ye (c:Cs):∀(l:List Pc) (o:Option Pr),xG c o l=true↔(∀x∈l,qp c x=true)∧(l.map (·.proc)).Pairwise f8∧∀p,o=some p→∀x∈l,f8 p x.proc
 | [],o=>by simp [xG]
 | x :: l,o=>by
  unfold xG
  simp only [Bool.and_eq_true,ye c l,AS]
  constructor
  ·rintro ⟨⟨h1,h2⟩,h3,h4,h5⟩
   refine ⟨?_,?_,?_⟩
   ·intro y hy
    rcases List.mem_cons.1 hy with rfl|hy
    ·exact h1
    ·exact h3 y hy
   ·rw [List.map_cons]
    refine List.pairwise_cons.2 ⟨?_,h4⟩
    intro p hp
    obtain ⟨y,hy,rfl⟩:=List.mem_map.1 hp
    exact h5 _ rfl y hy
   ·intro p hp y hy
    rcases List.mem_cons.1 hy with rfl|hy
    ·exact h2 p hp
    ·exact da (h2 p hp) (h5 _ rfl y hy)
  ·rintro ⟨h1,h2,h3⟩
   rw [List.map_cons] at h2
   obtain ⟨h4,h5⟩:=List.pairwise_cons.1 h2
   refine ⟨⟨h1 x (by simp),fun p hp=>h3 p hp x (by simp)⟩,fun y hy=>h1 y (by simp [hy]),h5,?_⟩
   intro p hp y hy
   injection hp with hp
   subst hp
   exact h4 _ (List.mem_map.2 ⟨y,hy,rfl⟩)
theorem sL {p:Pr}:∀{l:List Pc} {k:Nat},fm p k l<0↔∀x∈l,x.proc≠p
 | [],k=>by simp [fm]
 | x :: l,k=>by
  unfold fm
  by_cases hx:x.proc=p
  ·rw [decide_eq_true hx,cond_true]
   constructor
   ·intro h;omega
   ·intro h;exact absurd hx (h x (by simp))
  ·rw [decide_eq_false hx,cond_false,sL]
   constructor
   ·intro h y hy
    rcases List.mem_cons.1 hy with rfl|hy
    ·exact hx
    ·exact h y hy
   ·intro h y hy;exact h y (by simp [hy])
theorem mh {p:Pr}:∀{l:List Pc} {k:Nat},0≤fm p k l→∃i,∃h:i<l.length,fm p k l=((k+i:Nat):Int)∧l[i].proc=p
 | [],k,h=>by simp [fm] at h
 | x :: l,k,h=>by
  have e:fm p k (x :: l)=bif decide (x.proc=p) then (k:Int) else fm p (k+1) l:=rfl
  rw [e] at h ⊢
  by_cases hx:x.proc=p
  ·exact ⟨0,by simp,by rw [decide_eq_true hx];simp,hx⟩
  ·rw [decide_eq_false hx,cond_false] at h ⊢
   obtain ⟨i,hi,h1,h2⟩:=mh h
   exact ⟨i+1,by simpa using hi,by rw [h1];omega,by simpa using h2⟩
theorem EM {p:Pr} {l:List Pc} {k:Nat}:0≤fm p k l↔p∈l.map (·.proc):=by
 constructor
 ·intro h
  obtain ⟨i,hi,_,e⟩:=mh h
  exact List.mem_map.2 ⟨_,List.getElem_mem hi,e⟩
 ·intro h
  obtain ⟨x,hx,e⟩:=List.mem_map.1 h
  refine Classical.byContradiction fun hn=>?_
  exact sL.1 (show fm p k l<0 by omega) x hx e
theorem fY {c:Cs}:gE c=true↔CI c∧∀x∈c.procs,ur c x:=by
 unfold gE
 simp only [Bool.and_eq_true,decide_eq_true_eq,List.all_eq_true,ye,EM]
 constructor
 ·rintro ⟨⟨⟨⟨⟨h1,h2⟩,h3⟩,h4⟩,h5⟩,h6,h7,_⟩
  exact ⟨⟨⟨h1,h2⟩,h3,h4,h7,h5,fun x hx=>((pH h3).1 (h6 x hx)).1⟩,fun x hx=>((pH h3).1 (h6 x hx)).2⟩
 ·rintro ⟨⟨h1,h3,h4,h7,h5,h6⟩,h8⟩
  exact ⟨⟨⟨⟨⟨h1.1,h1.2⟩,h3⟩,h4⟩,h5⟩,fun x hx=>(pH h3).2 ⟨h6 x hx,h8 x hx⟩,h7,fun p hp=>by cases hp⟩
theorem mi (x:Pc):∀l:List Pc,(n9 x l).Perm (x :: l)
 | []=>List.Perm.refl _
 | y :: l=>by
  show (bif decide (0<dw y.proc x.proc) then x :: y :: l else y :: n9 x l).Perm _
  cases decide (0<dw y.proc x.proc) with
  | true=>exact List.Perm.refl _
  | false=>exact ((mi x l).cons y).trans (List.Perm.swap x y l)
theorem yf {x:Pc}:∀{l:List Pc},(l.map (·.proc)).Pairwise f8→(∀y∈l,y.proc≠x.proc)→((n9 x l).map (·.proc)).Pairwise f8
 | [],_,_=>by simp [n9]
 | y :: l,h,hn=>by
  rw [List.map_cons] at h
  obtain ⟨h1,h2⟩:=List.pairwise_cons.1 h
  have hyx:=hn y (by simp)
  show ((bif decide (0<dw y.proc x.proc) then x :: y :: l else y :: n9 x l).map (·.proc)).Pairwise f8
  by_cases hc:0<dw y.proc x.proc
  ·rw [decide_eq_true hc,cond_true,List.map_cons,List.map_cons]
   have hlt:f8 x.proc y.proc:=by
    rcases jw x.proc y.proc with h3|h3|h3
    ·exact h3
    ·exact absurd h3.symm hyx
    ·have:=(lL _ _).2 h3;omega
   refine List.pairwise_cons.2 ⟨?_,List.pairwise_cons.2 ⟨h1,h2⟩⟩
   intro z hz
   rcases List.mem_cons.1 hz with rfl|hz
   ·exact hlt
   ·exact da hlt (h1 z hz)
  ·rw [decide_eq_false hc,cond_false,List.map_cons]
   have hlt:f8 y.proc x.proc:=by
    rcases dV y.proc x.proc with ⟨h5,_⟩|⟨h5,_⟩|⟨_,h6⟩
    ·exact h5
    ·exact absurd h5 hyx
    ·omega
   refine List.pairwise_cons.2 ⟨?_,yf h2 fun z hz=>hn z (by simp [hz])⟩
   intro z hz
   obtain ⟨u,hu,rfl⟩:=List.mem_map.1 hz
   rcases List.mem_cons.1 ((mi x l).mem_iff.1 hu) with rfl|hu
   ·exact hlt
   ·exact h1 _ (List.mem_map.2 ⟨u,hu,rfl⟩)
theorem Hk {t:List Qu} (hv:eO t=true) {p:Pr} (hp:p ∉ aD t) {n:ByteArray} (hn:aU t n=true):aj (bd t n).holds p=⟨0,0⟩∧ai (bd t n) p=none:=by
 obtain ⟨hm,_⟩:=dH hn
 have h1:eF (bd t n) p=false:=by
  cases hh:eF (bd t n) p with
  | false=>rfl
  | true =>
   refine absurd ?_ hp
   unfold aD
   rw [cb,gy]
   exact ⟨_,hm,(d9 (aH (dK hv hm)) p).2 hh⟩
 unfold eF at h1
 rw [Bool.or_eq_false_iff,ov,Bool.not_eq_false'] at h1
 exact ⟨of_decide_eq_true h1.2,h1.1⟩
theorem Hl:Ld Lg.zero:=⟨by simp [Lg.zero],fun k hk=>absurd hk (by simp [Lg.zero]),by simp [Lg.zero,bp,dh],fun x hx=>absurd hx (by simp [Lg.zero]),by simp [Lg.zero],by simp [Lg.zero]⟩
theorem Hm {w:Wk} {p:Pr} {cost:Int} (h:CI w.c) (he:(mB w p cost).2=0) :
  CI (mB w p cost).1.c∧(mB w p cost).1.c.queues=w.c.queues∧(mB w p cost).1.c.now=w.c.now∧(mB w p cost).1.c.procs=n9 { F7 with proc:=p,cost:=cost } w.c.procs:=by
 unfold mB at he ⊢
 cases hA:fo p && decide (1≤cost) && decide (cost≤1000) with
 | false=>rw [hA] at he;simp at he
 | true =>
  rw [hA] at he
  simp only [Bool.not_true,cond_false] at he ⊢
  simp only [Bool.and_eq_true,decide_eq_true_eq] at hA
  by_cases hI:0≤fm p 0 w.c.procs
  ·rw [decide_eq_true hI] at he;simp at he
  ·rw [decide_eq_false hI] at he ⊢
   simp only [cond_false] at he ⊢
   by_cases hL:w.c.procs.length=8
   ·rw [decide_eq_true hL] at he;simp at he
   ·rw [decide_eq_false hL]
    simp only [cond_false]
    have hno:=(sL (k:=0)).1 (show fm p 0 w.c.procs<0 by omega)
    have hnp:p ∉ aD w.c.queues:=fun hm=>by
     obtain ⟨x,hx,e⟩:=List.mem_map.1 (h.cov p hm)
     exact hno x hx e
    have hperm:=mi { F7 with proc:=p,cost:=cost } w.c.procs
    refine ⟨⟨h.now,h.tv,?_,yf h.asc fun y hy=>hno y hy,fun r hr=>?_,fun x hx=>?_⟩,by trivial,by trivial,by trivial⟩
    ·have e1:=hperm.length_eq
     rw [List.length_cons] at e1
     have e2:=h.len
     show (n9 { F7 with proc:=p,cost:=cost } w.c.procs).length≤8
     rw [e1]
     omega
    ·obtain ⟨x,hx,e⟩:=List.mem_map.1 (h.cov r hr)
     exact List.mem_map.2 ⟨x,hperm.mem_iff.2 (by simp [hx]),e⟩
    ·rcases List.mem_cons.1 (hperm.mem_iff.1 hx) with rfl|hx
     ·refine ⟨⟨hA.1.1,⟨hA.1.2,hA.2⟩,Hl,by simp [F7],fun n hn=>absurd rfl hn⟩,fun _=>⟨rfl,rfl,fun n hn=>?_⟩,fun hw=>by cases hw⟩
      obtain ⟨k1,k2⟩:=Hk h.tv hnp hn
      exact ⟨k1,k2⟩
     ·exact h.inv x hx
def EN (now:Int) (x:Pc):Prop:=x.waiting=true∧x.req.limit≠0∧x.since+x.req.limit≤now
theorem mZ (now:Int):∀(l:List Pc) (k:Nat) (b:Int×Int),
  ((jg now k l b).1<0→b.1<0∧∀x∈l,¬EN now x)∧(0≤(jg now k l b).1→jg now k l b=b∨∃j,∃h:j<l.length,(jg now k l b).1=((k+j:Nat):Int)∧EN now l[j])
 | [],k,b=>by
  constructor
  ·intro h;exact ⟨h,fun x hx=>absurd hx (by simp)⟩
  ·intro _;exact .inl rfl
 | x :: l,k,b=>by
  have e:jg now k (x :: l) b=jg now (k+1) l (bif x.waiting && !decide (x.req.limit=0) && decide (x.since+x.req.limit≤now) && (decide (b.1<0) || decide (x.since+x.req.limit<b.2)) then ((k:Int),x.since+x.req.limit) else b):=rfl
  rw [e]
  cases hc:x.waiting && !decide (x.req.limit=0) && decide (x.since+x.req.limit≤now) && (decide (b.1<0) || decide (x.since+x.req.limit<b.2)) with
  | true =>
   rw [cond_true]
   obtain ⟨h1,h2⟩:=mZ now l (k+1) ((k:Int),x.since+x.req.limit)
   simp only [Bool.and_eq_true,decide_eq_true_eq,Bool.not_eq_true',decide_eq_false_iff_not] at hc
   constructor
   ·intro h
    have:=(h1 h).1
    simp only at this
    omega
   ·intro h
    rcases h2 h with h3|⟨j,hj,h3,h4⟩
    ·exact .inr ⟨0,by simp,by rw [h3];simp,⟨hc.1.1.1,hc.1.1.2,hc.1.2⟩⟩
    ·exact .inr ⟨j+1,by simpa using hj,by rw [h3];omega,by simpa using h4⟩
  | false =>
   rw [cond_false]
   obtain ⟨h1,h2⟩:=mZ now l (k+1) b
   constructor
   ·intro h
    obtain ⟨h3,h4⟩:=h1 h
    refine ⟨h3,fun y hy=>?_⟩
    rcases List.mem_cons.1 hy with rfl|hy
    ·rintro ⟨k1,k2,k3⟩
     rw [k1,decide_eq_false k2,decide_eq_true k3,decide_eq_true h3] at hc
     cases hc
    ·exact h4 y hy
   ·intro h
    rcases h2 h with h3|⟨j,hj,h3,h4⟩
    ·exact .inl h3
    ·exact .inr ⟨j+1,by simpa using hj,by rw [h3];omega,by simpa using h4⟩
theorem pI (w:Wk):(eZ w<0→∀x∈w.c.procs,¬EN w.c.now x)∧(0≤eZ w→∃h:(eZ w).toNat<w.c.procs.length,EN w.c.now w.c.procs[(eZ w).toNat]):=by
 obtain ⟨h1,h2⟩:=mZ w.c.now w.c.procs 0 (-1,0)
 constructor
 ·intro h;exact (h1 h).2
 ·intro h
  have h':0≤(jg w.c.now 0 w.c.procs (-1,0)).1:=h
  rcases h2 h with h3|⟨j,hj,h3,h4⟩
  ·rw [h3] at h';simp at h'
  ·have e:(eZ w).toNat=j:=by unfold eZ;rw [h3];omega
   exact ⟨by rw [e];exact hj,by simp only [e];exact h4⟩
theorem EO {c:Cs} {x:Pc} (h1:¬EN c.now x) (h2:ec c.queues x=false):ur c x:=fun hw=>by
 refine ⟨?_,h2⟩
 by_cases h0:x.req.limit=0
 ·exact .inl h0
 ·right
  refine Classical.byContradiction fun hn=>h1 ⟨hw,h0,by omega⟩
theorem yg:∀(n:Nat) (w:Wk),CI w.c→(∀x∈w.c.procs,ec w.c.queues x=false)→cZ w.c.procs≤n→CI (iP n w).c∧(∀x∈(iP n w).c.procs,ur (iP n w).c x)∧(iP n w).c.now=w.c.now∧KW w.c.procs (iP n w).c.procs∧(iP n w).c.procs.map (·.proc)=w.c.procs.map (·.proc)
 | 0,w,h,hs,hn=>by
  refine ⟨h,fun x hx hw=>?_,rfl,KW.refl _,rfl⟩
  have hx':x∈w.c.procs:=hx
  obtain ⟨i,hi,e⟩:=List.mem_iff_getElem.1 hx'
  have:0<cZ w.c.procs:=mc hi (by rw [e];exact hw)
  have hn':cZ w.c.procs≤0:=hn
  omega
 | n+1,w,h,hs,hn=>by
  obtain ⟨s1,s2⟩:=pI w
  unfold iP
  by_cases he:eZ w<0
  ·rw [decide_eq_true he]
   exact ⟨h,fun x hx=>EO (s1 he x hx) (hs x hx),rfl,KW.refl _,rfl⟩
  ·rw [decide_eq_false he,cond_false]
   obtain ⟨hi,hl1,hl2,hl3⟩:=s2 (by omega)
   generalize (eZ w).toNat=i at *
   have hc0:CI (w.note 4 (w.pc i).proc).c:=h
   have hw0:((w.note 4 (w.pc i).proc).pc i).waiting=true:=by rw [bX (w:=w.note 4 (w.pc i).proc) hi];exact hl1
   obtain ⟨k1,k2,k3,k4,_⟩:=gG hc0 hi hw0
   have hi2:i<(az (w.note 4 (w.pc i).proc) i).c.procs.length:=by rw [k3.len];exact hi
   have hrun:((az (w.note 4 (w.pc i).proc) i).pc i).waiting=false:=by rw [bX hi2];simp [k4]
   obtain ⟨n1,n2,n3⟩:=mf k1 hi2 hrun
   obtain ⟨q1,q2,q3,q4,q5,q6,_⟩:=md n1
   have k2':cZ (az (w.note 4 (w.pc i).proc) i).c.procs+1=cZ w.c.procs:=k2
   obtain ⟨r1,r2,r3,r4,r5⟩:=yg n (bP (bb (az (w.note 4 (w.pc i).proc) i) i)) q1 q2 (by omega)
   refine ⟨r1,r2,?_,?_,?_⟩
   ·exact r3.trans (q4.trans (n2.now.trans k3.now))
   ·exact (k3.kw.trans n2.kw).trans (q6.trans r4)
   ·exact r5.trans (q3.trans (n2.pr.trans k3.pr))
theorem CI.later {c:Cs} (h:CI c) {n:Int} (h0:0≤n) (hm:c.now+n≤1073741824):CI { c with now:=c.now+n } :=
 ⟨by have:=h.now;show 0≤c.now+n∧c.now+n≤1073741824;omega,h.tv,h.len,h.asc,h.cov,fun x hx=>by
  have k:=h.inv x hx
  exact ⟨k.stat,k.run,fun hw=>by
   obtain ⟨k1,k2⟩:=k.wat hw
   exact ⟨⟨k1.rq,k1.rs,by have:=k1.sn;show 0≤x.since∧x.since≤c.now+n;omega⟩,k2⟩⟩⟩
theorem pJ {c:Cs} {x:Pc} (h:ur c x):ec c.queues x=false:=by
 cases hw:x.waiting with
 | true=>exact (h hw).2
 | false=>unfold ec;rw [hw];rfl
theorem Hn {w:Wk} {n:Int} (h:CI w.c) (hs:∀x∈w.c.procs,ec w.c.queues x=false) (he:(j0 w n).2=0):CI (j0 w n).1.c∧(∀x∈(j0 w n).1.c.procs,ur (j0 w n).1.c x)∧(j0 w n).1.c.now=w.c.now+n∧KW w.c.procs (j0 w n).1.c.procs∧(j0 w n).1.c.procs.map (·.proc)=w.c.procs.map (·.proc):=by
 unfold j0 at he ⊢
 cases hA:decide (0≤n) && decide (n≤1000) with
 | false=>rw [hA] at he;simp at he
 | true =>
  rw [hA] at he
  simp only [Bool.not_true,cond_false] at he ⊢
  simp only [Bool.and_eq_true,decide_eq_true_eq] at hA
  by_cases hm:1073741824-n<w.c.now
  ·rw [decide_eq_true hm] at he;simp at he
  ·rw [decide_eq_false hm]
   simp only [cond_false]
   exact yg _ ⟨{ w.c with now:=w.c.now+n },w.ev⟩ (h.later hA.1 (by omega)) hs (oq _)
theorem cF {α:Type} {b:Bool} {x y:α} (h:b=false):(bif b then x else y)=y:=by rw [h];rfl
theorem cT {α:Type} {b:Bool} {x y:α} (h:b=true):(bif b then x else y)=x:=by rw [h];rfl
theorem La {c:Cs} {k:Cm} (h:gE c=true) (he:(D1 ⟨c,[]⟩ k).2=0):gE (D1 ⟨c,[]⟩ k).1.c=true:=by
 obtain ⟨hci,hun⟩:=fY.1 h
 have fin:∀w:Wk,CI w.c→(∀x∈w.c.procs,ec w.c.queues x=false)→KW c.procs w.c.procs→w.c.now=c.now→gE w.c=true:=by
  intro w h1 h2 h3 h4
  refine fY.2 ⟨h1,fun x hx hw=>⟨?_,h2 x hx⟩⟩
  have h5:=h3 x hx hw
  rw [h4]
  exact (hun x h5 hw).1
 unfold D1 at he ⊢
 cases hA:decide (1≤k.kind) && decide (k.kind≤9) with
 | false=>rw [hA] at he;simp at he
 | true =>
  rw [hA] at he
  simp only [Bool.not_true,cond_false] at he ⊢
  by_cases h1:k.kind=1
  ·rw [decide_eq_true h1] at he ⊢
   simp only [cond_true] at he ⊢
   obtain ⟨k1,k2,k3,k4⟩:=Hm hci he
   have hperm:=mi { F7 with proc:=k.proc,cost:=k.n } c.procs
   refine fY.2 ⟨k1,fun x hx hw=>?_⟩
   rw [k4] at hx
   rcases List.mem_cons.1 (hperm.mem_iff.1 hx) with rfl|hx
   ·cases hw
   ·have:=hun x hx hw
    rw [k2,k3]
    exact this
  ·rw [decide_eq_false h1] at he ⊢
   simp only [cond_false] at he ⊢
   by_cases h9:k.kind=9
   ·rw [decide_eq_true h9] at he ⊢
    simp only [cond_true] at he ⊢
    obtain ⟨k1,k2,_⟩:=Hn hci (fun x hx=>pJ (hun x hx)) he
    exact fY.2 ⟨k1,k2⟩
   ·rw [decide_eq_false h9] at he ⊢
    simp only [cond_false] at he ⊢
    by_cases hI:fm k.proc 0 c.procs<0
    ·rw [decide_eq_true hI] at he;simp at he
    ·rw [decide_eq_false hI] at he ⊢
     simp only [cond_false] at he ⊢
     obtain ⟨i,hi,e,_⟩:=mh (p:=k.proc) (l:=c.procs) (k:=0) (by omega)
     have ei:(fm k.proc 0 c.procs).toNat=i:=by rw [e];omega
     rw [ei] at he ⊢
     by_cases h2:k.kind=2
     ·rw [decide_eq_true h2] at he ⊢
      simp only [cond_true] at he ⊢
      have hrq:qo k.req=true:=by
       cases hq:qo k.req with
       | true=>rfl
       | false =>
        exfalso
        unfold cQ at he
        rw [hq] at he
        cases hw:(Wk.pc ⟨c,[]⟩ i).waiting <;> rw [hw] at he <;> simp at he
      obtain ⟨k1,k2,k3,_,k5,_⟩:=zT hci hi he
      refine fY.2 ⟨k1,fun x hx hw=>⟨?_,k2 x hx⟩⟩
      rw [k3]
      rcases k5 x hx hw with h5|h5
      ·exact (hun x h5 hw).1
      ·rw [h5]
       unfold qo at hrq
       simp only [Bool.and_eq_true,decide_eq_true_eq] at hrq
       show k.req.limit=0∨c.now<c.now+k.req.limit
       omega
     ·rw [decide_eq_false h2] at he ⊢
      simp only [cond_false] at he ⊢
      by_cases h3:k.kind=3
      ·rw [decide_eq_true h3] at he ⊢
       simp only [cond_true] at he ⊢
       cases hw:(Wk.pc ⟨c,[]⟩ i).waiting with
       | false=>rw [hw] at he;simp at he
       | true =>
        simp only [Bool.not_true,cond_false]
        obtain ⟨k1,_,k3,k4,_⟩:=gG hci hi hw
        have hi2:i<(az ⟨c,[]⟩ i).c.procs.length:=by rw [k3.len];exact hi
        obtain ⟨n1,n2,_⟩:=mf k1 hi2 (by rw [bX hi2];simp [k4])
        obtain ⟨q1,q2,q3⟩:=jk n1
        have hk:=(k3.trans n2).trans q3
        exact fin _ q1 q2 hk.kw hk.now
      ·rw [decide_eq_false h3] at he ⊢
       simp only [cond_false] at he ⊢
       by_cases h4:k.kind=4
       ·rw [decide_eq_true h4] at he ⊢
        simp only [cond_true] at he ⊢
        obtain ⟨q1,q2,hk,_⟩:=zU hci hi he
        exact fin _ q1 q2 hk.kw hk.now
       ·rw [decide_eq_false h4] at he ⊢
        simp only [cond_false] at he ⊢
        by_cases h5:k.kind=5
        ·rw [decide_eq_true h5] at he ⊢
         simp only [cond_true] at he ⊢
         rcases Bool.eq_false_or_eq_true (Wk.pc ⟨c,[]⟩ i).waiting with hw|hw
         ·rw [cT hw] at he;simp at he
         ·rw [cF hw] at he ⊢
          by_cases hs:(iN (Wk.pc ⟨c,[]⟩ i).led k.n).2=0
          ·rw [decide_eq_true hs]
           simp only [Bool.not_true,cond_false]
           obtain ⟨hld,hse,hld2⟩:=GL hs
           rw [hse]
           have hpc:=bX (w:=⟨c,[]⟩) hi
           have hinv:=hci.inv _ (List.getElem_mem hi)
           rw [←hpc] at hinv
           obtain ⟨hrq,hsn,hrun⟩:=hinv.run hw
           have hpv:PInv c.queues c.now { Wk.pc ⟨c,[]⟩ i with led:=⟨(Wk.pc ⟨c,[]⟩ i).led.entries,(Wk.pc ⟨c,[]⟩ i).led.saves++[⟨k.n,(Wk.pc ⟨c,[]⟩ i).led.entries.length⟩]⟩ } :=
            ⟨⟨hinv.stat.vp,hinv.stat.cost,hld2,hinv.stat.gen,hinv.stat.hf⟩,fun _=>⟨hrq,hsn,fun n hn=>(hrun n hn).led rfl rfl⟩,fun hf=>by
             have:(Wk.pc ⟨c,[]⟩ i).waiting=true:=hf
             rw [hw] at this
             cases this⟩
           have hci2:=hci.upd (c':=(Wk.setP ⟨c,[]⟩ i { Wk.pc ⟨c,[]⟩ i with led:=⟨(Wk.pc ⟨c,[]⟩ i).led.entries,(Wk.pc ⟨c,[]⟩ i).led.saves++[⟨k.n,(Wk.pc ⟨c,[]⟩ i).led.entries.length⟩]⟩ }).c) hi rfl rfl (by rw [hpc]) (TP.refl hci.tv _) hpv
           have hi2:i<(Wk.setP ⟨c,[]⟩ i { Wk.pc ⟨c,[]⟩ i with led:=⟨(Wk.pc ⟨c,[]⟩ i).led.entries,(Wk.pc ⟨c,[]⟩ i).led.saves++[⟨k.n,(Wk.pc ⟨c,[]⟩ i).led.entries.length⟩]⟩ }).c.procs.length:=by
            show i<(c.procs.set i _).length
            simpa using hi
           obtain ⟨n1,n2,_⟩:=mf hci2 hi2 (by rw [oo hi];exact hw)
           have hkw:KW c.procs (Wk.setP ⟨c,[]⟩ i { Wk.pc ⟨c,[]⟩ i with led:=⟨(Wk.pc ⟨c,[]⟩ i).led.entries,(Wk.pc ⟨c,[]⟩ i).led.saves++[⟨k.n,(Wk.pc ⟨c,[]⟩ i).led.entries.length⟩]⟩ }).c.procs:=KW.set hw
           refine fin _ n1 (fun x hx=>?_) (hkw.trans n2.kw) n2.now
           cases hxw:x.waiting with
           | false=>unfold ec;rw [hxw];rfl
           | true=>exact pJ (hun x (hkw.trans n2.kw x hx hxw))
          ·rw [decide_eq_false hs] at he
           simp only [Bool.not_false,cond_true] at he
           exact absurd he hs
        ·rw [decide_eq_false h5] at he ⊢
         simp only [cond_false] at he ⊢
         by_cases h6:k.kind=6
         ·rw [decide_eq_true h6] at he ⊢
          simp only [cond_true] at he ⊢
          obtain ⟨q1,q2,hk,_⟩:=yb hci hi he
          exact fin _ q1 q2 hk.kw hk.now
         ·rw [decide_eq_false h6] at he ⊢
          simp only [cond_false] at he ⊢
          cases h8:decide (k.kind=8) && (Wk.pc ⟨c,[]⟩ i).waiting with
          | true=>rw [h8] at he;simp at he
          | false =>
           simp only [cond_false]
           obtain ⟨q1,q2,q3,q4,_⟩:=Hh (w:=⟨c,[]⟩) hci hi
           exact fin _ q1 q2 q3 q4
theorem JX {c:Cs} {k:Cm} (he:(Cr c k).2.2=0):gE c=true∧gE (Cr c k).1=true:=by
 unfold Cr at he ⊢
 cases hc:gE c with
 | false=>rw [hc] at he;simp at he
 | true =>
  rw [hc] at he
  simp only [Bool.not_true,cond_false] at he ⊢
  by_cases h0:(D1 ⟨c,[]⟩ k).2=0
  ·rw [decide_eq_true h0]
   exact ⟨trivial,La hc h0⟩
  ·rw [decide_eq_false h0] at he
   simp only [Bool.not_false,cond_true] at he
   exact absurd he h0
def kn (n m:Int):Int:=bif decide (m<1) then 0 else bif decide (n.tmod m<0) then n.tmod m+m else n.tmod m
theorem rb {n m:Int} (h:1≤m):0≤kn n m∧kn n m<m:=by
 unfold kn
 rw [decide_eq_false (by omega),cond_false]
 by_cases h2:n.tmod m<0
 ·rw [decide_eq_true h2,cond_true]
  have:=Int.lt_tmod_of_pos n (show 0<m by omega)
  omega
 ·rw [decide_eq_false h2,cond_false]
  have:=Int.tmod_lt_of_pos n (show 0<m by omega)
  omega
structure Tp where
 l:List Int
 at_:Nat
def Tp.v (t:Tp) (m:Int):Int:=bif decide (t.l.length≤t.at_) then 0 else kn (t.l.getD t.at_ 0) m
def Tp.s (t:Tp):Tp:=bif decide (t.l.length≤t.at_) then t else ⟨t.l,t.at_+1⟩
theorem Tp.v_in (t:Tp) {m:Int} (h:1≤m):0≤t.v m∧t.v m<m:=by
 unfold Tp.v
 cases decide (t.l.length≤t.at_) with
 | true=>rw [cond_true];omega
 | false=>exact rb h
theorem Tp.s_l (t:Tp):t.s.l=t.l:=by unfold Tp.s;cases decide (t.l.length≤t.at_) <;> rfl
theorem Tp.s_at (t:Tp) (h:t.at_≤t.l.length):t.s.at_≤t.s.l.length:=by
 rw [Tp.s_l]
 unfold Tp.s
 by_cases h2:t.l.length≤t.at_
 ·rw [decide_eq_true h2];exact h
 ·rw [decide_eq_false h2];show t.at_+1≤_;omega
theorem Tp.s_le (t:Tp):t.at_≤t.s.at_:=by
 unfold Tp.s
 cases decide (t.l.length≤t.at_) with
 | true=>exact Nat.le_refl _
 | false=>exact Nat.le_succ _
theorem Tp.s_lt (t:Tp) (h:t.at_<t.l.length):t.s.at_=t.at_+1:=by
 unfold Tp.s
 rw [decide_eq_false (by omega)]
 rfl
def iC (n:Int):Pr:=⟨(kn n 8).tmod 4,1,1+(kn n 8).tdiv 4⟩
def nA:ByteArray:=⟨#[97]⟩
def nB:ByteArray:=⟨#[98]⟩
def nC:ByteArray:=⟨#[99]⟩
def nD:ByteArray:=⟨#[100]⟩
def nP:ByteArray:=⟨#[112]⟩
def nQ:ByteArray:=⟨#[113]⟩
def qS (t:Tp):List Rs×Tp :=
 ([⟨nA,1,1,t.v 4⟩,⟨nB,1,1,t.s.v 4⟩,⟨nC,1,1,t.s.s.v 4⟩,⟨nD,1,1,t.s.s.s.v 4⟩,⟨nP,2,1+t.s.s.s.s.v 8,t.s.s.s.s.s.v 4⟩,⟨nQ,2,1+t.s.s.s.s.s.s.v 3,t.s.s.s.s.s.s.s.v 4⟩],t.s.s.s.s.s.s.s.s)
def Bj (n:Int):Int:=[5,5,3,4,2,1,3,5].getD (kn n 8).toNat 0
def IP (r:Rs) (n:Int):Am:=bif decide (r.kind=1) then ⟨Bj n,0⟩ else ⟨0,1+kn n r.units⟩
def ut (first:Int):Nat→List Rs→List Tm
 | _,[]=>[]
 | i,r :: l=>⟨r.name,IP r (first.fdiv (2 ^ (3*i)))⟩ :: ut first (i+1) l
def Bk (L:List Tm) (n:Int):Tm:=L.getD n.toNat ⟨⟨#[]⟩,Am.zero⟩
def j8 (f:Tp→Ex×Tp):Nat→Tp→List Ex×Tp
 | 0,t=>([],t)
 | n+1,t=>((f t).1 :: (j8 f n (f t).2).1,(j8 f n (f t).2).2)
def fa (L:List Tm):Nat→Tp→Ex×Tp
 | 0,t=>(.mk 0 (Bk L (t.v L.length)) [],t.s)
 | d+1,t=>bif decide (t.v 4=0) then (.mk 0 (Bk L (t.s.v L.length)) [],t.s.s) else
  (.mk (1+t.s.s.v (1+t.s.v 3)) ⟨⟨#[]⟩,Am.zero⟩ (j8 (fa L d) (1+t.s.v 3).toNat t.s.s.s).1,(j8 (fa L d) (1+t.s.v 3).toNat t.s.s.s).2)
def ow (t:Tp) (l:List Rs):Ex×Tp:=fa (ut (t.v 1048576) 0 l) 2 t.s
def zV (t:Tp) (l:List Rs):Rq×Tp :=
 bif decide (t.s.v 5=1) then (⟨(ow t.s.s.s l).1,t.v 8,1+t.s.s.v 20⟩,(ow t.s.s.s l).2) else (⟨(ow t.s.s l).1,t.v 8,0⟩,(ow t.s.s l).2)
def vY (t:Tp) (l:List Rs):Cm×Tp :=
 let n:=t.v 16
 let p:=iC (t.s.v 6)
 let u:=t.s.s
 bif decide (n=0) then (⟨1,p,Rq.zero,⟨#[]⟩,1+u.v 9⟩,u.s) else
 bif decide (n<9) then (⟨2,p,(zV u l).1,⟨#[]⟩,0⟩,(zV u l).2) else
 bif decide (n=9) then (⟨3,p,Rq.zero,⟨#[]⟩,0⟩,u) else
 bif decide (n=10) then (⟨4,p,Rq.zero,(l.getD (u.v l.length).toNat ⟨⟨#[]⟩,0,0,0⟩).name,0⟩,u.s) else
 bif decide (n=11) then (⟨5,p,Rq.zero,⟨#[]⟩,1+u.v 4⟩,u.s) else
 bif decide (n=12) then (⟨6,p,Rq.zero,⟨#[]⟩,u.v 5⟩,u.s) else
 bif decide (n=13) then (⟨7,p,Rq.zero,⟨#[]⟩,0⟩,u) else
 bif decide (n=14) then (⟨8,p,Rq.zero,⟨#[]⟩,0⟩,u) else (⟨9,p,Rq.zero,⟨#[]⟩,u.v 12⟩,u.s)
def yh (i:Int) (t:Tp):Cm:=⟨1,iC i,Rq.zero,⟨#[]⟩,1+t.v 9⟩
def sM (cat:List Rs):Nat→Tp→List Cm
 | 0,_=>[]
 | n+1,t=>bif decide (t.at_<t.l.length) then (vY t cat).1 :: sM cat n (vY t cat).2 else []
def iR (l:List Int):List Rs×List Cm :=
 let c:=qS ⟨l,0⟩
 let t:=c.2
 (c.1,[yh 0 t,yh 1 t.s,yh 2 t.s.s,yh 3 t.s.s.s]++sM c.1 l.length t.s.s.s.s)
def ko (r:Rs):Qu:=⟨r,[],[],[],0⟩
def yi:Cs→List Cm→Cs
 | c,[]=>c
 | c,k :: l=>yi (bif decide ((Cr c k).2.2=0) then (Cr c k).1 else c) l
theorem vZ:∀(l:List Cm) (c:Cs),gE c=true→gE (yi c l)=true
 | [],_,h=>h
 | k :: l,c,h=>by
  show gE (yi (bif decide ((Cr c k).2.2=0) then (Cr c k).1 else c) l)=true
  by_cases he:(Cr c k).2.2=0
  ·rw [decide_eq_true he];exact vZ l _ (JX he).2
  ·rw [decide_eq_false he];exact vZ l c h
structure Adv (t t':Tp):Prop where
 l:t'.l=t.l
 le:t.at_≤t'.at_
 ok:t.at_≤t.l.length→t'.at_≤t'.l.length
theorem Adv.refl (t:Tp):Adv t t:=⟨rfl,Nat.le_refl _,id⟩
theorem Adv.trans {a b c:Tp} (h:Adv a b) (k:Adv b c):Adv a c:=⟨k.l.trans h.l,Nat.le_trans h.le k.le,fun e=>k.ok (h.ok e)⟩
theorem Adv.s (t:Tp):Adv t t.s:=⟨t.s_l,t.s_le,t.s_at⟩
theorem Adv.ss {t u:Tp} (h:Adv t u):Adv t u.s:=h.trans (Adv.s u)
theorem uu {f:Tp→Ex×Tp} (hf:∀t,Adv t (f t).2):∀(n:Nat) (t:Tp),Adv t (j8 f n t).2
 | 0,t=>Adv.refl t
 | n+1,t=>(hf t).trans (uu hf n (f t).2)
theorem m9 (L:List Tm):∀(d:Nat) (t:Tp),Adv t (fa L d t).2
 | 0,t=>Adv.s t
 | d+1,t=>by
  unfold fa
  cases decide (t.v 4=0) with
  | true=>exact (Adv.s t).ss
  | false=>exact (Adv.s t).ss.ss.trans (uu (m9 L d) _ _)
theorem uv (t:Tp) (l:List Rs):Adv t (ow t l).2:=(Adv.s t).trans (m9 _ 2 _)
theorem EP (t:Tp) (l:List Rs):Adv t (zV t l).2:=by
 unfold zV
 cases decide (t.s.v 5=1) with
 | true=>exact (Adv.s t).ss.ss.trans (uv _ _)
 | false=>exact (Adv.s t).ss.trans (uv _ _)
theorem ER (t:Tp) (l:List Rs):Adv t.s (vY t l).2:=by
 have h:=Adv.s t.s
 have h1:=h.ss
 have h2:=h.trans (EP t.s.s l)
 unfold vY
 dsimp only
 generalize decide (t.v 16=0)=b0
 generalize decide (t.v 16<9)=b1
 generalize decide (t.v 16=9)=b2
 generalize decide (t.v 16=10)=b3
 generalize decide (t.v 16=11)=b4
 generalize decide (t.v 16=12)=b5
 generalize decide (t.v 16=13)=b6
 generalize decide (t.v 16=14)=b7
 cases b0
 case true=>exact h1
 cases b1
 case true=>exact h2
 cases b2
 case true=>exact h
 cases b3
 case true=>exact h1
 cases b4
 case true=>exact h1
 cases b5
 case true=>exact h1
 cases b6
 case true=>exact h
 cases b7
 case true=>exact h
 exact h1
section
variable {P:Program} {o:Oper} {s:Mst}
theorem dM {src dst:TypeId} {x:Operand} {k k2:IntKind} {n m:Int} (ho:o.op = .convert src dst x) (hs:P.underlying src=some (.int k)) (hd:P.underlying dst=some (.int k2)) (hx:s.ev x = .c (.sc (.int k n))) (h:k2.wrap n=m):LOp P o s [] ⟨.c (.sc (.int k2 m)),[],[]⟩ :=
 AN (by rw [ho];rfl) hx fun ev w hx=>by simp [execOp,ho,hx,convert,run_underlying hs,run_underlying hd,Conv.intToInt,h]
theorem Hp {t t':TypeId} {x y:Operand} {kd k2:IntKind} {a b c:Int} (ho:o.op = .binOp .shr t x y t') (hx:s.ev x = .c (.sc (.int kd a))) (hy:s.ev y = .c (.sc (.int k2 b))) (h0:0≤b) (hb:b.toNat≤kd.bits) (h:a.fdiv (2 ^ b.toNat)=c):LOp P o s [] ⟨.c (.sc (.int kd c)),[],[]⟩ :=
 fy (by rw [ho];rfl) hx hy fun ev w hx hy=>by
  have:¬b<0:=by omega
  simp [execOp,ho,hx,hy,eqGuard,binOp,Op.shift,this,Nat.min_eq_left hb,h]
end
instance:Dp fk:=et _ _ _ _ _
instance:ST prog fk 42 3 8:=⟨ElTB.mk' underlying42 (.int .i64 0) 1 8 (by kernel_rfl) rfl rfl⟩
theorem Lb (n m:Int) (hm:m≤1048576):FSpec prog 96 [mb n,mb m] [] [] (.i (kn n m)) []:=by
 refine bJ func96 ?_
 by_cases h1:m<1
 ·have e:kn n m=0:=by unfold kn;rw [decide_eq_true h1];rfl
  rw [e]
  repeat' (first
   | refine af ?_ ?_
   | refine en ?_
   | exact ah|refine ae fun hb=>?_
   | (refine aP (qf []) ?_;exact ab))
 ·have k1:n.tmod m<m:=Int.tmod_lt_of_pos n (by omega)
  have k2 : -m<n.tmod m:=Int.lt_tmod_of_pos n (by omega)
  obtain ⟨r,hr⟩:∃r,n.tmod m=r:=⟨_,rfl⟩
  have e:kn n m=bif decide (r<0) then r+m else r:=by unfold kn;rw [decide_eq_false h1,hr];rfl
  rw [e]
  rw [hr] at k1 k2
  by_cases h2:r<0
  ·rw [decide_eq_true h2]
   repeat' (first
    | refine af ?_ ?_
    | (refine aa 10 rfl ?_;refine sx (vm rfl rfl rfl (by omega) hr) ?_)
    | refine en ?_
    | exact ah|refine ae fun hb=>?_
    | (refine aP (qf []) ?_;exact ab))
  ·rw [decide_eq_false h2]
   repeat' (first
    | refine af ?_ ?_
    | (refine aa 10 rfl ?_;refine sx (vm rfl rfl rfl (by omega) hr) ?_)
    | refine en ?_
    | exact ah|refine ae fun hb=>?_
    | (refine aP (qf []) ?_;exact ab))
theorem ET (n m:Int) (hm:m≤1048576) {r:Int} (h:kn n m=r):FSpec prog 96 [mb n,mb m] [] [] (.i r) []:=h▸Lb n m hm
def JY (t:Tp):List D:=[.sl fk t.l,.sc (.int .i64 t.at_)]
def HT (t:Tp):List (Nat×Box):=[(0,.box 115 (JY t))]
def IQ (t:Tp):List (Nat×Option Box):=[(0,some (.box 115 (JY t)))]
structure TOk (t:Tp):Prop where
 le:t.at_≤t.l.length
 len:t.l.length≤100000
theorem TOk.s {t:Tp} (h:TOk t):TOk t.s:=⟨t.s_at h.le,by rw [t.s_l];exact h.len⟩
theorem TOk.adv {t u:Tp} (h:TOk t) (k:Adv t u):TOk u:=⟨k.ok h.le,by rw [k.l];exact h.len⟩
theorem jO (t:Tp) (m:Int) (h:TOk t) (hm:m≤1048576):FSpec prog 57 [j6,mb m] (HT t) [] (.i (t.v m)) (IQ t.s):=by
 refine bJ func57 ?_
 have hl:=h.len
 have hle:=h.le
 by_cases h1:t.l.length≤t.at_
 ·have e1:t.v m=0:=by unfold Tp.v;rw [decide_eq_true h1];rfl
  have e2:t.s=t:=by unfold Tp.s;rw [decide_eq_true h1];rfl
  rw [e1,e2]
  repeat' (first
   | refine af ?_ ?_
   | refine en ?_
   | exact ah|refine ae fun hb=>?_
   | (refine aP (qf [(0,0)]) ?_;exact ab))
 ·obtain ⟨x,hx⟩:∃x,t.l[t.at_]? = some x:=⟨_,List.getElem?_eq_getElem (by omega)⟩
  have e1:t.v m=kn x m:=by unfold Tp.v;rw [decide_eq_false h1,cond_false,List.getD_eq_getElem?_getD,hx];rfl
  have e2:t.s=⟨t.l,t.at_+1⟩:=by unfold Tp.s;rw [decide_eq_false h1];rfl
  rw [e1,e2]
  have hx2:t.l[((t.at_:Int)+1-1).toNat]? = some x:=by rw [←hx];congr 1;omega
  have kM:=Lb x m hm
  repeat' (first
   | refine af ?_ ?_
   | refine aa 9 rfl (cB [] (kM) ?_)
   | refine en ?_
   | exact ah|refine ae fun hb=>?_
   | (refine aP (qf [(0,0)]) ?_;exact ab))
theorem JZ (t:Tp) (h:TOk t):FSpec prog 58 [j6] (HT t) [] (.b (decide (t.at_<t.l.length))) (IQ t):=by
 refine bJ func58 ?_
 have hl:=h.len
 have e:decide (t.at_<t.l.length)=decide ((t.at_:Int)<t.l.length):=by rw [Bool.eq_iff_iff];simp
 rw [e]
 repeat' (first
  | refine af ?_ ?_
  | refine en ?_
  | exact ah|refine ae fun hb=>?_
  | (refine aP (qf [(0,0)]) ?_;exact ab))
theorem pK (n:Int):FSpec prog 55 [mb n] [] [] (.v (iC n).a) []:=by
 refine bJ func55 ?_
 obtain ⟨r,hr⟩:∃r,kn n 8=r:=⟨_,rfl⟩
 have kM:=ET n 8 (by omega) hr
 have hb:=rb (n:=n) (m:=8) (by omega)
 rw [hr] at hb
 have e:iC n=⟨r.tmod 4,1,1+r.tdiv 4⟩:=by unfold iC;rw [hr]
 rw [e]
 have hq:0≤r.tdiv 4∧r.tdiv 4≤8:=by rw [Int.tdiv_eq_ediv_of_nonneg hb.1];omega
 obtain ⟨q,hq2⟩:∃q,r.tdiv 4=q:=⟨_,rfl⟩
 rw [hq2] at hq ⊢
 repeat' (first
  | refine af ?_ ?_
  | refine aa 9 rfl (cB [] (kM) ?_)
  | (refine aa 10 rfl ?_;first
   | (refine sx (Gw rfl rfl rfl (by decide) ((congrArg _ hq2).trans (IntWalk.i64_in _ (by omega)))) ?_)
   | (refine sx (vm rfl rfl rfl (by decide) rfl) ?_))
  | refine en ?_
  | exact ah|refine ae fun hb=>?_
  | (refine aP (qf []) ?_;exact ab))
theorem ib {P:Program} {o:Oper} {s:Mst} {t e:TypeId} {x:Operand} {k n:Nat} [SE P t e] (ho:o.op = .call { callee:=.builtin .len,args:=#[x],argTypes:=#[t] }) (hx:s.ev x = .c (.slb k n)):LOp P o s [] ⟨.i n,[],[]⟩ :=
 im (ty:=0) ho fun c st ρ a w hr he _=>by
  have hv:=hr.ev x
  rw [he,hx] at hv
  obtain ⟨g,_,hv⟩:=hv
  exact ⟨_,_,hv⟩
theorem bV {P:Program} {o:Oper} {s:Mst} {t e:TypeId} {x y:Operand} {row:Bool} {n i k m:Nat} {kd:IntKind} {z:Int} (ho:o.op = .indexAddr t x y) (hx:s.ev x = .c (.slb k m)) (hy:s.ev y = .c (.sc (.int kd z))) [SE P t e] [TI P e row n] (hz:z=(i:Int)) (hi:i<m) :
  LOp P o s [] ⟨.c (.ptr k (i*n)),[],[]⟩ :=
 aZ fun c st ρ a w hr h1 _=>by
  have he:=h1 x (by simp [ho,Op.operands])
  have he2:=h1 y (by simp [ho,Op.operands])
  rw [hx] at he
  rw [hy] at he2
  have hv:=hr.ev x
  rw [he] at hv
  have hv2:=hr.ev y
  rw [he2] at hv2
  obtain ⟨g,hg,hv⟩:=hv
  have hv2:a.eval y = .int kd z:=hv2
  subst hz
  refine ⟨.pointer (some ⟨g,i*n,none⟩),by unfold execOp;rw [ho];simp only [hv,hv2,Sem.run_bind,iM w m m i hi,Result.andThen_ok,Sem.run_pure,Nat.zero_add],⟨g,hg,rfl⟩,fun k' hk=>hr.nf (x:=x) he hk⟩
theorem J0 (n:Int):FSpec prog 227 [mb n] [] [] (.i (Bj n)) []:=by
 refine bJ func227 ?_
 obtain ⟨r,hr⟩:∃r,kn n 8=r:=⟨_,rfl⟩
 have kM:=ET n 8 (by omega) hr
 have hb:=rb (n:=n) (m:=8) (by omega)
 unfold Bj
 rw [hr] at hb ⊢
 obtain rfl|rfl|rfl|rfl|rfl|rfl|rfl|rfl:r=0∨r=1∨r=2∨r=3∨r=4∨r=5∨r=6∨r=7:=by omega
 all_goals
  repeat' (first
   | refine af ?_ ?_
   | (refine aa 6 rfl ?_;first
    | (refine sx (bV (i:=7) rfl rfl rfl rfl (by decide)) ?_)
    | (refine sx (bV (i:=6) rfl rfl rfl rfl (by decide)) ?_)
    | (refine sx (bV (i:=5) rfl rfl rfl rfl (by decide)) ?_)
    | (refine sx (bV (i:=4) rfl rfl rfl rfl (by decide)) ?_)
    | (refine sx (bV (i:=3) rfl rfl rfl rfl (by decide)) ?_)
    | (refine sx (bV (i:=2) rfl rfl rfl rfl (by decide)) ?_)
    | (refine sx (bV (i:=1) rfl rfl rfl rfl (by decide)) ?_)
    | (refine sx (bV (i:=0) rfl rfl rfl rfl (by decide)) ?_))
   | (refine aa 7 rfl ?_;refine sx (ib rfl rfl) ?_)
   | refine aa 9 rfl (cB [] (kM) ?_)
   | refine en ?_
   | exact ah|refine ae fun hb=>?_
   | (refine aP (qf []) ?_;exact ab))
theorem Mx (r:Rs) (n:Int) (hr:1≤r.units∧r.units≤1000):FSpec prog 180 [r.a,mb n] [] [] (.v (IP r n).a) []:=by
 refine bJ func180 ?_
 by_cases hk:r.kind=1
 ·have e:IP r n=⟨Bj n,0⟩:=by unfold IP;rw [decide_eq_true hk];rfl
  rw [e]
  have kM:=J0 n
  repeat' (first
   | refine af ?_ ?_
   | refine aa 9 rfl (cB [] (kM) ?_)
   | refine en ?_
   | exact ah|(refine ae fun hb=>?_;first|(exact absurd hk hb)|skip)
   | (refine aP (qf []) ?_;exact ab))
 ·obtain ⟨v,hv⟩:∃v,kn n r.units=v:=⟨_,rfl⟩
  have hb:=rb (n:=n) hr.1
  have kM:=ET n r.units (by omega) hv
  have e:IP r n=⟨0,1+v⟩:=by unfold IP;rw [decide_eq_false hk,hv];rfl
  rw [e]
  rw [hv] at hb
  repeat' (first
   | refine af ?_ ?_
   | refine aa 9 rfl (cB [] (kM) ?_)
   | refine en ?_
   | exact ah|(refine ae fun hb=>?_;first|(exact absurd hb hk)|skip)
   | (refine aP (qf []) ?_;exact ab))
def My (t:Tp):List Rs:=[⟨nA,1,1,t.v 4⟩,⟨nB,1,1,t.s.v 4⟩,⟨nC,1,1,t.s.s.v 4⟩,⟨nD,1,1,t.s.s.s.v 4⟩]
def Mz (t:Tp):Nat→Tp
 | 0=>t
 | n+1=>(Mz t n).s
theorem Lc (t:Tp) (h:TOk t):FSpec prog 56 [j6] (HT t) [] (.c (.sl fJ (qS t).1)) (IQ (qS t).2):=by
 refine bJ func56 ?_
 repeat' (first
  | refine af ?_ ?_
  | refine en ?_
  | exact ah|refine ae fun hb=>?_)
 refine dS 3 1000 159 fJ rfl rfl rfl ?_
 refine ao (fun i:Nat=>i≤4) (fun i=>cy [0,6,1000] [(0,.v j6),(3,.c (.own 1000)),(4,.c (.slb 6 4)),(5,.i i)] [(0,.box 115 (JY (Mz t i))),(6,.box 9 [.sc (.string nA),.sc (.string nB),.sc (.string nC),.sc (.string nD)]),(1000,.arr 159 fJ ((My t).take i))]) (fun i=>4-i) 0 (Nat.zero_le _) (by exact ap (qf [])) ?_
 rintro i hi
 have k1:=h.s
 have k2:=k1.s
 have k3:=k2.s
 have k4:=k3.s
 obtain rfl|rfl|rfl|rfl|rfl:i=0∨i=1∨i=2∨i=3∨i=4:=by omega
 ·have kN:=jO t 4 h (by omega)
  repeat' (first
   | refine af ?_ ?_
   | (refine aa 6 rfl ?_;refine sx (bV (i:=0) rfl rfl rfl rfl (by decide)) ?_)
   | (refine aa 7 rfl ?_;refine sx (ib rfl rfl) ?_)
   | (refine aa 8 rfl ?_;refine bc (ak rfl rfl (aI rfl rfl) (aO [⟨nA,1,1,t.v 4⟩] rfl rfl rfl rfl) rfl aJ aJ) rfl rfl rfl ?_)
   | refine aa 9 rfl (cH (qf [(0,0)]) (kN) ?_)
   | refine en ?_
   | exact ah|refine ae fun hb=>?_)
  refine ⟨1,by decide,by decide,?_⟩
  exact ap (qf [(1000,22)])
 ·have kN:=jO t.s 4 k1 (by omega)
  repeat' (first
   | refine af ?_ ?_
   | (refine aa 6 rfl ?_;refine sx (bV (i:=1) rfl rfl rfl rfl (by decide)) ?_)
   | (refine aa 7 rfl ?_;refine sx (ib rfl rfl) ?_)
   | (refine aa 8 rfl ?_;refine bc (ak rfl rfl (aI rfl rfl) (aO [⟨nB,1,1,t.s.v 4⟩] rfl rfl rfl rfl) rfl aJ aJ) rfl rfl rfl ?_)
   | refine aa 9 rfl (cH (qf [(0,0)]) (kN) ?_)
   | refine en ?_
   | exact ah|refine ae fun hb=>?_)
  refine ⟨2,by decide,by decide,?_⟩
  exact ap (qf [(1000,22)])
 ·have kN:=jO t.s.s 4 k2 (by omega)
  repeat' (first
   | refine af ?_ ?_
   | (refine aa 6 rfl ?_;refine sx (bV (i:=2) rfl rfl rfl rfl (by decide)) ?_)
   | (refine aa 7 rfl ?_;refine sx (ib rfl rfl) ?_)
   | (refine aa 8 rfl ?_;refine bc (ak rfl rfl (aI rfl rfl) (aO [⟨nC,1,1,t.s.s.v 4⟩] rfl rfl rfl rfl) rfl aJ aJ) rfl rfl rfl ?_)
   | refine aa 9 rfl (cH (qf [(0,0)]) (kN) ?_)
   | refine en ?_
   | exact ah|refine ae fun hb=>?_)
  refine ⟨3,by decide,by decide,?_⟩
  exact ap (qf [(1000,22)])
 ·have kN:=jO t.s.s.s 4 k3 (by omega)
  repeat' (first
   | refine af ?_ ?_
   | (refine aa 6 rfl ?_;refine sx (bV (i:=3) rfl rfl rfl rfl (by decide)) ?_)
   | (refine aa 7 rfl ?_;refine sx (ib rfl rfl) ?_)
   | (refine aa 8 rfl ?_;refine bc (ak rfl rfl (aI rfl rfl) (aO [⟨nD,1,1,t.s.s.s.v 4⟩] rfl rfl rfl rfl) rfl aJ aJ) rfl rfl rfl ?_)
   | refine aa 9 rfl (cH (qf [(0,0)]) (kN) ?_)
   | refine en ?_
   | exact ah|refine ae fun hb=>?_)
  refine ⟨4,by decide,by decide,?_⟩
  exact ap (qf [(1000,22)])
 ·unfold qS
  rw [show Mz t 4=t.s.s.s.s from rfl]
  generalize t.s.s.s.s=u4 at *
  obtain ⟨u5,e5⟩:∃u,u4.s=u:=⟨_,rfl⟩
  obtain ⟨u6,e6⟩:∃u,u5.s=u:=⟨_,rfl⟩
  obtain ⟨u7,e7⟩:∃u,u6.s=u:=⟨_,rfl⟩
  obtain ⟨u8,e8⟩:∃u,u7.s=u:=⟨_,rfl⟩
  have k5:=k4.s
  rw [e5] at k5
  have k6:=k5.s
  rw [e6] at k6
  have k7:=k6.s
  rw [e7] at k7
  have kN1:=jO u4 8 k4 (by omega)
  have kN2:=jO u5 4 k5 (by omega)
  have kN3:=jO u6 3 k6 (by omega)
  have kN4:=jO u7 4 k7 (by omega)
  have b1:=u4.v_in (m:=8) (by omega)
  have b3:=u6.v_in (m:=3) (by omega)
  rw [e5,e6,e7,e8]
  rw [e5] at kN1
  rw [e6] at kN2
  rw [e7] at kN3
  rw [e8] at kN4
  generalize u4.v 8=v1 at *
  generalize u5.v 4=v2 at *
  generalize u6.v 3=v3 at *
  generalize u7.v 4=v4 at *
  clear e5 e6 e7 e8
  repeat' (first
   | refine af ?_ ?_
   | (refine aa 7 rfl ?_;refine sx (ib rfl rfl) ?_)
   | (refine aa 8 rfl ?_;first
    | (refine bc (ak rfl rfl (aI rfl rfl) (aO [⟨nQ,2,1+v3,v4⟩] rfl rfl rfl rfl) rfl aJ aJ) rfl rfl rfl ?_)
    | (refine bc (ak rfl rfl (aI rfl rfl) (aO [⟨nP,2,1+v1,v2⟩] rfl rfl rfl rfl) rfl aJ aJ) rfl rfl rfl ?_))
   | (refine aa 9 rfl ?_;first
    | (refine cH (qf [(0,0)]) (kN1) ?_)
    | (refine cH (qf [(0,0)]) (kN2) ?_)
    | (refine cH (qf [(0,0)]) (kN3) ?_)
    | (refine cH (qf [(0,0)]) (kN4) ?_))
   | refine en ?_
   | exact ah|refine ae fun hb=>?_
   | (refine aP (qf [(0,0)]) ?_;exact ab))
theorem Hq (t:List Qu) (p:Pr) (a:Tm) (prio:Int) {R:List Qu×List Ev×Int} (hR:bI t p a prio=R):FSpec prog 185 [.one (.sl lX t),p.a,a.a,.one (.sc (.int .i64 prio))] [] [] (JQ R) []:=by
 refine bJ func185 ?_
 cases hV:eO t with
 | false =>
  obtain rfl:R=fF 2:=by rw [←hR];simp [bI,hV]
  repeat' (first
   | refine af ?_ ?_
   | refine aa 9 rfl (cB [] (dl t) ?_)
   | refine en ?_
   | exact ah|refine ae fun hb=>?_
   | (refine gK (qf []) ?_;exact ab))
 | true =>
  have hm:=(cr hV).1
  have h8:∀q∈t,ld q:=fun q hq=>mV (dK hV hq)
  by_cases hf:bw a.name 0 t<0
  case pos =>
   obtain rfl:R=fF 10:=by rw [←hR];simp [bI,hV,hf]
   repeat' (first
    | refine af ?_ ?_
    | (refine aa 9 rfl ?_;first
     | (refine cB [] (dl t) ?_)
     | (refine cB [] (pt t a.name) ?_))
    | refine en ?_
    | exact ah|refine ae fun hb=>?_
    | (refine gK (qf []) ?_;exact ab))
  obtain ⟨i,hi,hF,hq,hx⟩:=gg hf
  by_cases hN:(aD t).length=8∧p ∉ aD t
  case pos =>
   obtain ⟨hN1,hN2⟩:=hN
   obtain rfl:R=fF 4:=by rw [←hR];simp [bI,hV,hf,hN1,hN2]
   repeat' (first
    | refine af ?_ ?_
    | (refine aa 9 rfl ?_;first
     | (refine cB [] (dl t) ?_)
     | (refine cB [] (cV t a.name hF) ?_)
     | (refine cC [] (oe t (by omega) h8) ?_)
     | (refine cB [] (Eu (aD t) p) ?_))
    | refine en ?_
    | exact ah|refine ae fun hb=>?_
    | (refine gK (qf []) ?_;exact ab))
  have hS:=dK hV (List.getElem_mem hi)
  obtain ⟨Q,hQ⟩:∃Q,bt t[i] p a.am prio=Q:=⟨_,rfl⟩
  have hQl:=so hS p a.am prio
  rw [hQ] at hQl
  have hlen:Q.2.1.length≤100000:=by omega
  have hN3:(decide ((aD t).length=8) && !decide (p∈aD t))=false:=by
   rw [Bool.and_eq_false_iff]
   by_cases h:(aD t).length=8
   ·right
    have:p∈aD t:=Classical.byContradiction fun h2=>hN ⟨h,h2⟩
    simp [this]
   ·left;simp [h]
  by_cases he:Q.2.2=0
  ·obtain rfl:R=(t.set i Q.1,aW a.name Q.2.1,0):=by rw [←hR];unfold bI;rw [hq,hQ,hx,hN3];simp [hV,hf,he]
   clear hN3
   repeat' (first
    | refine af ?_ ?_
    | (refine aa 9 rfl ?_;first
     | (refine cB [] (dl t) ?_)
     | (refine cB [] (cV t a.name hF) ?_)
     | (refine cC [] (oe t (by omega) h8) ?_)
     | (refine cB [] (Eu (aD t) p) ?_)
     | (refine cC [] (Ba t[i] p a.am prio hQ) ?_)
     | (refine cC [] (og t i Q.1 hi (by omega)) ?_)
     | (refine cC [] (ma a.name Q.2.1 hlen) ?_))
    | refine en ?_
    | exact ah|(refine ae fun hb=>?_;first|(exact (hN ⟨by omega,by assumption⟩).elim)|skip)
    | (refine gK (qf []) ?_;exact ab))
  ·obtain rfl:R=fF Q.2.2:=by rw [←hR];unfold bI;rw [hq,hQ,hx,hN3];simp [hV,hf,he]
   clear hN3
   repeat' (first
    | refine af ?_ ?_
    | (refine aa 9 rfl ?_;first
     | (refine cB [] (dl t) ?_)
     | (refine cB [] (cV t a.name hF) ?_)
     | (refine cC [] (oe t (by omega) h8) ?_)
     | (refine cB [] (Eu (aD t) p) ?_)
     | (refine cC [] (Ba t[i] p a.am prio hQ) ?_))
    | refine en ?_
    | exact ah|(refine ae fun hb=>?_;first|(exact (hN ⟨by omega,by assumption⟩).elim)|skip)
    | (refine gK (qf []) ?_;exact ab))
theorem EU (t:List Qu) (p:Pr) {R:List Qu×List Ev} (hR:bO t p=R):FSpec prog 195 [.one (.sl lX t),p.a] [] [] (.tup [.one (.sl lX R.1),.one (.sl qq R.2)]) []:=by
 refine bJ func195 ?_
 cases hV:eO t with
 | false =>
  obtain rfl:R=([],[]):=by rw [←hR];simp [bO,hV]
  repeat' (first
   | refine af ?_ ?_
   | refine aa 9 rfl (cB [] (dl t) ?_)
   | refine en ?_
   | exact ah|refine ae fun hb=>?_
   | (refine mu (qf []) ?_;exact ab))
 | true =>
  have hm:=(cr hV).1
  have hR2:aQ p t=R:=by rw [←hR];simp [bO,hV]
  repeat' (first
   | refine af ?_ ?_
   | refine aa 9 rfl (cB [] (dl t) ?_)
   | refine en ?_
   | exact ah|refine ae fun hb=>?_)
  refine dS 7 1000 296 qq rfl rfl rfl ?_
  refine ao (fun x:Nat×List Qu×List Ev=>x.1≤t.length∧x.2.1.length=x.1∧x.2.2.length≤18*x.1∧x.2.1++(aQ p (t.drop x.1)).1=R.1∧x.2.2++(aQ p (t.drop x.1)).2=R.2) (fun x=>cy [3,1000,1001] [(3,.c (.ptr 3 0)),(6,.c (.own 1001)),(7,.c (.own 1000)),(8,.i x.1)] [(3,.box 23 [.sc (.int .i64 p.site),.sc (.int .i64 p.inc),.sc (.int .i64 p.num)]),(1001,.arr 165 lX (x.2.1++t.drop x.1)),(1000,.arr 296 qq x.2.2)]) (fun x=>t.length-x.1) (0,[],[]) ⟨Nat.zero_le _,rfl,Nat.le_refl _,by rw [←hR2];rfl,by rw [←hR2];rfl⟩ (by exact ap (qf [(1001,17)])) ?_
  rintro ⟨i,o,ev⟩ ⟨hi,hol,hel,hs1,hs2⟩
  dsimp only at *
  have hlen:(o++t.drop i).length=t.length:=by simp;omega
  by_cases hlt:i<t.length
  ·obtain ⟨q,hq⟩:∃q,q=t[i]:=⟨_,rfl⟩
   have il:(o++t.drop i)[i]? = some q:=by
    rw [List.getElem?_append_right (by omega),hol,Nat.sub_self,List.getElem?_drop]
    simp [hq,hlt]
   have hS:av q=true:=dK hV (hq▸List.getElem_mem hlt)
   rw [List.drop_eq_getElem_cons hlt,←hq] at hs1 hs2
   have e0:o++t.drop i=(o++[q])++t.drop (i+1):=by rw [List.drop_eq_getElem_cons hlt,←hq];simp
   cases hh:eF q p with
   | false =>
    rw [show aQ p (q :: t.drop (i+1))=(q :: (aQ p (t.drop (i+1))).1,(aQ p (t.drop (i+1))).2) by simp [aQ,hh]] at hs1 hs2
    repeat' (first
     | refine af ?_ ?_
     | refine aa 9 rfl (cB [] (Et q p) ?_)
     | refine en ?_
     | exact ah|refine ae fun hb=>?_)
    refine ⟨(i+1,o++[q],ev),⟨by dsimp only;omega,by simp;omega,by dsimp only;omega,by dsimp only;rw [←hs1];simp,hs2⟩,by dsimp only;omega,?_⟩
    dsimp only
    rw [←e0]
    exact ap (qf [])
   | true =>
    obtain ⟨Q,hQ⟩:∃Q,bg q p=Q:=⟨_,rfl⟩
    have hQl:=qt hS p
    rw [hQ] at hQl
    have hgl:(aW Q.1.res.name Q.2.1).length≤17:=by unfold aW;rw [List.length_map];exact hQl
    have hset:(o++t.drop i).set i Q.1=(o++[Q.1])++t.drop (i+1):=by
     have e9:(t.drop i).set 0 Q.1=Q.1 :: t.drop (i+1):=by rw [List.drop_eq_getElem_cons hlt];rfl
     rw [List.set_append_right _ _ (by omega),hol,Nat.sub_self,e9]
     simp
    cases hz:aF (aj q.holds p) with
    | true =>
     rw [show aQ p (q :: t.drop (i+1))=(Q.1 :: (aQ p (t.drop (i+1))).1,aW Q.1.res.name Q.2.1++(aQ p (t.drop (i+1))).2) by simp [aQ,hh,hQ,hz]] at hs1 hs2
     repeat' (first
      | refine af ?_ ?_
      | (refine aa 9 rfl ?_;first
       | (refine cB [] (Et q p) ?_)
       | (refine cB [] (eQ q p) ?_)
       | (refine cB [] (j5 (aj q.holds p)) ?_)
       | (refine cC [] (xU q p hQ) ?_)
       | (refine cC [] (ma Q.1.res.name Q.2.1 (by omega)) ?_))
      | refine en ?_
      | (refine aa 4 rfl ?_;refine bW (aL (z:=Q.1) rfl rfl rfl rfl (by first|assumption|exact List.getElem?_eq_getElem (by omega)) rfl rfl rfl rfl (Nat.le_of_ble_eq_true rfl) rfl rfl) rfl rfl rfl ?_)
      | exact ah|refine ae fun hb=>?_)
     refine ⟨(i+1,o++[Q.1],ev++aW Q.1.res.name Q.2.1),⟨by dsimp only;omega,by simp;omega,by simp;omega,by dsimp only;rw [←hs1];simp,by dsimp only;rw [←hs2];simp⟩,by dsimp only;omega,?_⟩
     dsimp only
     rw [←hset]
     exact ap (qf [(1000,70)])
    | false =>
     rw [show aQ p (q :: t.drop (i+1))=(Q.1 :: (aQ p (t.drop (i+1))).1,[⟨3,p,q.res.name,⟨0,0⟩⟩]++aW Q.1.res.name Q.2.1++(aQ p (t.drop (i+1))).2) by simp [aQ,hh,hQ,hz]] at hs1 hs2
     repeat' (first
      | refine af ?_ ?_
      | (refine aa 8 rfl ?_;refine bc (ak rfl rfl (aI rfl rfl) (aO [⟨3,p,q.res.name,⟨0,0⟩⟩] rfl rfl rfl rfl) rfl aJ aJ) rfl rfl rfl ?_)
      | (refine aa 9 rfl ?_;first
       | (refine cB [] (Et q p) ?_)
       | (refine cB [] (eQ q p) ?_)
       | (refine cB [] (j5 (aj q.holds p)) ?_)
       | (refine cC [] (xU q p hQ) ?_)
       | (refine cC [] (ma Q.1.res.name Q.2.1 (by omega)) ?_))
      | refine en ?_
      | (refine aa 4 rfl ?_;refine bW (aL (z:=Q.1) rfl rfl rfl rfl (by first|assumption|exact List.getElem?_eq_getElem (by omega)) rfl rfl rfl rfl (Nat.le_of_ble_eq_true rfl) rfl rfl) rfl rfl rfl ?_)
      | exact ah|refine ae fun hb=>?_)
     refine ⟨(i+1,o++[Q.1],ev++[⟨3,p,q.res.name,⟨0,0⟩⟩]++aW Q.1.res.name Q.2.1),⟨by dsimp only;omega,by simp;omega,by simp;omega,by dsimp only;rw [←hs1];simp,by dsimp only;rw [←hs2];simp⟩,by dsimp only;omega,?_⟩
     dsimp only
     rw [←hset]
     exact ap (qf [(1000,70)])
  ·have e:(o++t.drop i,ev)=R:=by
    rw [List.drop_eq_nil_of_le (by omega)] at hs1 hs2 ⊢
    simp [aQ] at hs1 hs2
    rw [hs2,List.append_nil,hs1]
   repeat' (first
    | refine af ?_ ?_
    | refine en ?_
    | exact ah|refine ae fun hb=>?_)
   rw [←e]
   refine mu (qf []) ?_;exact ab
theorem gH (n:ByteArray) (l:List Ho):(aW n l).length=l.length:=List.length_map ..
theorem qD (t:List Qu) (p:Pr) (n:ByteArray):(cU t p n).2.1.length≤17:=by
 unfold cU
 cases hV:eO t with
 | false=>simp [fF]
 | true =>
  by_cases hf:bw n 0 t<0
  ·simp [hf,fF]
  ·obtain ⟨i,hi,hF,hq,hx⟩:=gg hf
   have:=qs (dK hV (List.getElem_mem hi)) p
   rw [hq]
   cases decide ((bo t[i] p).2.2=0) with
   | false=>simp [hf,fF]
   | true=>simp [hf,gH];exact this
theorem fZ (t:List Qu) (p:Pr) (a:Tm):(cl t p a).2.1.length≤18:=by
 unfold cl
 cases hV:eO t with
 | false=>simp [fF]
 | true =>
  by_cases hf:bw a.name 0 t<0
  ·simp [hf,fF]
  ·obtain ⟨i,hi,hF,hq,hx⟩:=gg hf
   have:=sq (dK hV (List.getElem_mem hi)) p a.am
   rw [hq]
   cases decide ((bz t[i] p a.am).2.2=0) with
   | false=>simp [hf,fF]
   | true =>
    cases decide (aj t[i].holds p=a.am) with
    | true=>simp [hf,gH];omega
    | false=>simp [hf,gH];omega
theorem wd {t:List Qu} {n:ByteArray} (h:aU t n=true):∃i,∃hi:i<t.length,bw n 0 t=(i:Int)∧bd t n=t[i]:=by
 have hf:¬bw n 0 t<0:=by simpa [aU] using h
 obtain ⟨i,hi,hF,hq,_⟩:=gg hf
 exact ⟨i,hi,hF,hq⟩
theorem IR (d:Nat) (w:Wk) (x:Pc) (n:ByteArray) (hV:eO w.c.queues=true) (hn:aU w.c.queues n=true) (hl:w.ev.length≤900000):FSpec prog 187 [j6,x.a d,.one (.sc (.string n))] (HI d w) [3,4] (.tup []) (HO d (bL w x n)):=by
 refine bJ func187 ?_
 obtain ⟨i,hi,hF,hq⟩:=wd hn
 obtain ⟨l,hL⟩:∃l,ay x.led.entries n=l:=⟨_,rfl⟩
 have kL:=iY x.led.entries n
 rw [hL] at kL
 obtain ⟨o,hw⟩:∃o,ai w.c.queues[i] x.proc=o:=⟨_,rfl⟩
 have hcl:=qD w.c.queues x.proc n
 cases o with
 | none =>
  have e1:bL w x n=cO w x.proc n l:=by unfold bL iy;rw [hq,hw,hL];rfl
  rw [e1]
  obtain ⟨h,hh⟩:∃h,aj w.c.queues[i].holds x.proc=h:=⟨_,rfl⟩
  have kH:=eQ w.c.queues[i] x.proc
  rw [hh] at kH
  have hll:=fZ w.c.queues x.proc ⟨n,l⟩
  by_cases hhl:h=l
  ·rw [show cO w x.proc n l=w by unfold cO;rw [hq,hh];simp [hhl]]
   repeat' (first
    | refine af ?_ ?_
    | (refine aa 9 rfl ?_;first
     | (refine cB [] (cV w.c.queues n hF) ?_)
     | (refine cB [] (bQ w.c.queues[i] x.proc hw) ?_)
     | (refine cB [] (kL) ?_)
     | (refine cB [] (kH) ?_))
    | refine en ?_
    | exact ah|refine ae fun hb=>?_
    | (exact Eb (qf [(3,1),(4,2)])))
  ·obtain ⟨R,hR⟩:∃R,cl w.c.queues x.proc ⟨n,l⟩=R:=⟨_,rfl⟩
   rw [hR] at hll
   rw [show cO w x.proc n l=w.take R.1 R.2.1 by unfold cO eY;rw [hq,hh,hR];simp [hhl]]
   repeat' (first
    | refine af ?_ ?_
    | (refine aa 9 rfl ?_;first
     | (refine cB [] (cV w.c.queues n hF) ?_)
     | (refine cB [] (bQ w.c.queues[i] x.proc hw) ?_)
     | (refine cB [] (kL) ?_)
     | (refine cB [] (kH) ?_)
     | (refine cC [] (q9 w.c.queues x.proc ⟨n,l⟩ hR) ?_)
     | (refine cH (qf [(3,1003),(4,1004)]) (qu d w R.1 R.2.1 (by omega)) ?_))
    | refine en ?_
    | exact ah|refine ae fun hb=>?_
    | (exact Eb (qf [(3,1003),(4,1004)])))
 | some m =>
  obtain ⟨C,hC⟩:∃C,cU w.c.queues x.proc n=C:=⟨_,rfl⟩
  have hts:=(sr (p:=x.proc) hV hn (by rw [hq,hw];rfl)).2.1
  rw [hC] at hts hcl
  have hF2:bw n 0 C.1=(i:Int):=by rw [lz n 0 hts.nm];exact hF
  have hi2:i<C.1.length:=by
   have:=congrArg List.length hts.nm
   simp [gz] at this
   omega
  have hq2:bd C.1 n=C.1[i]:=by
   obtain ⟨j,hj,hFj,hqj⟩:=wd (t:=C.1) (n:=n) (by simp [aU,hF2])
   have:j=i:=by rw [hF2] at hFj;omega
   subst this
   exact hqj
  have e1:bL w x n=cO (w.take C.1 C.2.1) x.proc n l:=by unfold bL iy lW;rw [hq,hw,hL,hC];rfl
  rw [e1]
  obtain ⟨h,hh⟩:∃h,aj C.1[i].holds x.proc=h:=⟨_,rfl⟩
  have kH:=eQ C.1[i] x.proc
  rw [hh] at kH
  have hll:=fZ C.1 x.proc ⟨n,l⟩
  have hi3:i<(w.take C.1 C.2.1).c.queues.length:=hi2
  have hgq:(w.take C.1 C.2.1).c.queues[i]? = some C.1[i]:=List.getElem?_eq_getElem hi2
  by_cases hhl:h=l
  ·rw [show cO (w.take C.1 C.2.1) x.proc n l=w.take C.1 C.2.1 by unfold cO;rw [show (w.take C.1 C.2.1).c.queues=C.1 from rfl,hq2,hh];simp [hhl]]
   repeat' (first
    | refine af ?_ ?_
    | (refine aa 9 rfl ?_;first
     | (refine cB [] (cV w.c.queues n hF) ?_)
     | (refine cB [] (bQ w.c.queues[i] x.proc hw) ?_)
     | (refine cC [] (xV w.c.queues x.proc n hC) ?_)
     | (refine cB [] (kL) ?_)
     | (refine cB [] (kH) ?_)
     | (refine cH (qf [(3,1003),(4,1004)]) (qu d w C.1 C.2.1 (by omega)) ?_))
    | refine en ?_
    | exact ah|refine ae fun hb=>?_
    | (exact Eb (qf [(3,1003),(4,1004)])))
  ·obtain ⟨R,hR⟩:∃R,cl C.1 x.proc ⟨n,l⟩=R:=⟨_,rfl⟩
   rw [hR] at hll
   have hev:(w.take C.1 C.2.1).ev.length+R.2.1.length≤1000000:=by simp [Wk.take];omega
   rw [show cO (w.take C.1 C.2.1) x.proc n l=(w.take C.1 C.2.1).take R.1 R.2.1 by unfold cO eY;rw [show (w.take C.1 C.2.1).c.queues=C.1 from rfl,hq2,hh,hR];simp [hhl]]
   repeat' (first
    | refine af ?_ ?_
    | (refine aa 9 rfl ?_;first
     | (refine cB [] (cV w.c.queues n hF) ?_)
     | (refine cB [] (bQ w.c.queues[i] x.proc hw) ?_)
     | (refine cC [] (xV w.c.queues x.proc n hC) ?_)
     | (refine cB [] (kL) ?_)
     | (refine cB [] (kH) ?_)
     | (refine cC [] (q9 C.1 x.proc ⟨n,l⟩ hR) ?_)
     | (refine cH (qf [(3,1003),(4,1004)]) (qu d w C.1 C.2.1 (by omega)) ?_)
     | (refine cH (qf [(1,1003),(2,1004),(3,1005),(4,1006)]) (qu d (w.take C.1 C.2.1) R.1 R.2.1 hev) ?_))
    | refine en ?_
    | exact ah|refine ae fun hb=>?_
    | (exact Eb (qf [(3,1005),(4,1006)])))
end Go.Proofs.YtdaajdflefnjfaaGreat
