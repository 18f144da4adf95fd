/- Part 7 of 24 of the proof of rollbackBytes_holds (no condition). -/
import Derived.Test.YtdaajdflefnjfaaGreatL02
set_option linter.unusedVariables false
set_option linter.unusedSimpArgs false
set_option maxRecDepth 100000
set_option maxHeartbeats 64000000
namespace Go.Proofs.YtdaajdflefnjfaaGreat
open Go.RowKit
def Io (p:Option Pr) (x:Pr):Bool:=match p with|none=>true|some y=>decide (cU y x<0)
theorem zo (r:Rs) (p:Option Pr) (x:Ho) (l:List Ho):tu r p (x :: l)=(fI x.proc && aH r x.am && Io p x.proc && tu r (some x.proc) l):=by cases p <;> rfl
theorem AF {p:Option Pr} {x:Pr}:Io p x=true↔∀q,p=some q→fY q x:=by
 cases p with
 | none=>simp [Io]
 | some q=>simp [Io,gG]
theorem xg (r:Rs):∀(l:List Ho) (p:Option Pr),tu r p l=true↔(∀x∈l,fI x.proc=true∧aH r x.am=true)∧(du l).Pairwise fY∧∀q,p=some q→∀x∈l,fY q x.proc
 | [],p=>by simp [tu,du]
 | x :: l,p=>by
  rw [zo]
  simp only [Bool.and_eq_true,xg r l,AF]
  constructor
  ·rintro ⟨⟨⟨h1,h2⟩,h3⟩,h4,h5,h6⟩
   refine ⟨?_,?_,?_⟩
   ·intro y hy
    rcases List.mem_cons.1 hy with rfl|hy
    ·exact ⟨h1,h2⟩
    ·exact h4 y hy
   ·show (x.proc :: du l).Pairwise fY
    refine List.pairwise_cons.2 ⟨?_,h5⟩
    intro y hy
    obtain ⟨z,hz,rfl⟩:=List.mem_map.1 hy
    exact h6 _ rfl z hz
   ·intro q hq y hy
    rcases List.mem_cons.1 hy with rfl|hy
    ·exact h3 q hq
    ·exact cz (h3 q hq) (h6 _ rfl y hy)
  ·rintro ⟨h1,h2,h3⟩
   have h2':(x.proc :: du l).Pairwise fY:=h2
   obtain ⟨h4,h5⟩:=List.pairwise_cons.1 h2'
   refine ⟨⟨h1 x (by simp),fun q hq=>h3 q hq x (by simp)⟩,fun y hy=>h1 y (by simp [hy]),h5,?_⟩
   intro q hq y hy
   injection hq with hq
   subst hq
   exact h4 _ (List.mem_map.2 ⟨y,hy,rfl⟩)
def mH:List Am→Int
 | []=>0
 | a :: l=>a.units+mH l
def DP (a b:Am):Bool:=aO a || aO b || vd a.mode b.mode
theorem DQ (a b:Am):DP a b=DP b a:=by
 unfold DP
 rw [oY,Bool.or_comm (aO a)]
theorem mI {r:Rs} {a:Am} (h:cQ r a=true) (hk:r.kind=2):0≤a.units:=(wR h (by omega)).2.1
theorem qa {r:Rs} (hk:r.kind=2):∀{l:List Am},(∀a∈l,cQ r a=true)→0≤mH l
 | [],_=>Int.le_refl _
 | a :: l,h=>by
  have h1:=mI (h a (by simp)) hk
  have h2:=qa hk (l:=l) fun b hb=>h b (by simp [hb])
  show 0≤a.units+mH l
  omega
theorem B6 (a:Am) (l:List Am):pS a l=false↔∀b∈l,DP b a=true:=by
 unfold pS DP
 rw [List.any_eq_false]
 constructor
 ·intro h b hb
  have:=h b hb
  have e:=oY b.mode a.mode
  cases h1:aO a <;> cases h2:aO b <;> simp_all
 ·intro h b hb
  have:=h b hb
  have e:=oY b.mode a.mode
  cases h1:aO a <;> cases h2:aO b <;> simp_all
theorem mJ {r:Rs}:∀(l:List Am) (s:Int) (pre:List Am),iL r s pre l=true↔(∀a∈l,cQ r a=true)∧(r.kind=2→l≠[]→s+mH l≤r.units)∧(r.kind≠2→l.Pairwise (fun a b=>DP a b=true)∧∀a∈l,∀b∈pre,DP b a=true)
 | [],s,pre=>by simp [iL]
 | a :: l,s,pre=>by
  rw [pT,Bool.and_eq_true]
  by_cases hk:r.kind=2
  ·rw [if_pos hk,Bool.and_eq_true,decide_eq_true_eq,mJ l]
   constructor
   ·rintro ⟨h1,h2,h3,h4,_⟩
    refine ⟨?_,?_,fun h=>absurd hk h⟩
    ·intro b hb
     rcases List.mem_cons.1 hb with rfl|hb
     ·exact h1
     ·exact h3 b hb
    ·intro _ _
     show s+(a.units+mH l)≤r.units
     cases l with
     | nil=>show s+(a.units+0)≤r.units;omega
     | cons b m=>have:=h4 hk (by simp);omega
   ·rintro ⟨h1,h2,_⟩
    have h3:s+(a.units+mH l)≤r.units:=h2 hk (by simp)
    have h4:=qa hk (l:=l) fun b hb=>h1 b (by simp [hb])
    exact ⟨h1 a (by simp),by omega,fun b hb=>h1 b (by simp [hb]),fun _ _=>by omega,fun h=>absurd hk h⟩
  ·rw [if_neg hk,Bool.and_eq_true,mJ l,Bool.not_eq_true',B6]
   constructor
   ·rintro ⟨h1,h2,h3,_,h5⟩
    obtain ⟨h6,h7⟩:=h5 hk
    refine ⟨?_,fun h=>absurd h hk,fun _=>⟨List.pairwise_cons.2 ⟨fun b hb=>h7 b hb a (by simp),h6⟩,?_⟩⟩
    ·intro b hb
     rcases List.mem_cons.1 hb with rfl|hb
     ·exact h1
     ·exact h3 b hb
    ·intro b hb c hc
     rcases List.mem_cons.1 hb with rfl|hb
     ·exact h2 c hc
     ·exact h7 b hb c (by simp [hc])
   ·rintro ⟨h1,_,h3⟩
    obtain ⟨h4,h5⟩:=h3 hk
    obtain ⟨h6,h7⟩:=List.pairwise_cons.1 h4
    refine ⟨h1 a (by simp),h5 a (by simp),fun b hb=>h1 b (by simp [hb]),fun h=>absurd h hk,fun _=>⟨h7,?_⟩⟩
    intro b hb c hc
    rcases List.mem_append.1 hc with hc|hc
    ·exact h5 b (by simp [hb]) c hc
    ·rw [List.mem_singleton] at hc
     subst hc
     exact h6 b hb
structure Comp (r:Rs) (l:List Am):Prop where
 shp:bb r=true
 prm:∀a∈l,cQ r a=true
 sum:r.kind=2→mH l≤r.units
 ok:r.kind≠2→l.Pairwise (fun a b=>DP a b=true)
theorem B7 {r:Rs} {l:List Am}:np r l=true↔Comp r l:=by
 unfold np
 rw [Bool.and_eq_true,mJ]
 constructor
 ·rintro ⟨h0,h1,h2,h3⟩
  refine ⟨h0,h1,fun hk=>?_,fun hk=>(h3 hk).1⟩
  cases l with
  | nil =>
   have:=da h0
   show (0:Int)≤r.units
   omega
  | cons a m=>have:=h2 hk (by simp);omega
 ·rintro ⟨h0,h1,h2,h3⟩
  exact ⟨h0,h1,fun hk _=>by have:=h2 hk;omega,fun hk=>⟨h3 hk,fun _ _ _ hb=>absurd hb (by simp)⟩⟩
theorem B8 {l l':List Am} (h:l.Perm l'):mH l=mH l':=by
 induction h with
 | nil=>rfl
 | cons a _ ih=>show a.units+_=a.units+_;rw [ih]
 | swap a b l=>show b.units+(a.units+mH l)=a.units+(b.units+mH l);omega
 | trans _ _ h1 h2=>exact h1.trans h2
theorem Comp.perm {r:Rs} {l l':List Am} (h:Comp r l) (p:l.Perm l'):Comp r l' :=
 ⟨h.shp,fun a ha=>h.prm a (p.mem_iff.2 ha),fun hk=>by rw [←B8 p];exact h.sum hk,fun hk=>(p.pairwise_iff (fun {a b} hab=>by rw [DQ];exact hab)).1 (h.ok hk)⟩
theorem Comp.tail {r:Rs} {a:Am} {l:List Am} (h:Comp r (a :: l)):Comp r l :=
 ⟨h.shp,fun b hb=>h.prm b (by simp [hb]),fun hk=>by
  have h1:a.units+mH l≤r.units:=h.sum hk
  have h2:=mI (h.prm a (by simp)) hk
  omega,fun hk=>(List.pairwise_cons.1 (h.ok hk)).2⟩
theorem B9 {r:Rs} {a b c:Am} (hk:r.kind=1) (h:bq r a b=true) (ho:DP a c=true):DP b c=true:=by
 unfold bq at h
 simp only [hk,if_true,Bool.and_eq_true,Bool.or_eq_true,Bool.not_eq_true'] at h
 unfold DP at ho ⊢
 simp only [Bool.or_eq_true] at ho ⊢
 rcases h.2 with h1|⟨h1,h2⟩
 ·exact .inl (.inl h1)
 ·rcases ho with (h3|h3)|h3
  ·rw [h1] at h3;cases h3
  ·exact .inl (.inr h3)
  ·refine .inr ?_
   unfold dy at h2
   unfold vd at h3 ⊢
   simp only [Bool.and_eq_true,Bool.or_eq_true,Bool.not_eq_true',decide_eq_true_eq,decide_eq_false_iff_not] at h2 h3 ⊢
   obtain ⟨⟨h4,h5⟩,h6⟩:=h2
   obtain ⟨⟨⟨⟨h7,h8⟩,h9⟩,h10⟩,h11⟩:=h3
   unfold cl at *
   simp only [Bool.and_eq_true,decide_eq_true_eq] at *
   refine ⟨⟨⟨⟨h5,h8⟩,?_⟩,h10⟩,?_⟩ <;> omega
theorem Comp.lower {r:Rs} {a b:Am} {l:List Am} (h:Comp r (a :: l)) (hc:bq r a b=true):Comp r (b :: l):=by
 have hp:cQ r b=true:=by unfold bq at hc;simp only [Bool.and_eq_true] at hc;exact hc.1.2
 refine ⟨h.shp,?_,fun hk=>?_,fun hk=>?_⟩
 ·intro x hx
  rcases List.mem_cons.1 hx with rfl|hx
  ·exact hp
  ·exact h.prm x (by simp [hx])
 ·have h1:a.units+mH l≤r.units:=h.sum hk
  have h2:=mI (h.prm a (by simp)) hk
  show b.units+mH l≤r.units
  unfold bq at hc
  rw [if_neg (show ¬r.kind=1 by omega)] at hc
  simp only [Bool.and_eq_true,Bool.or_eq_true,decide_eq_true_eq] at hc
  rcases hc.2 with h3|h3
  ·unfold aO at h3
   have h4:=of_decide_eq_true h3
   rw [h4]
   show 0+mH l≤r.units
   omega
  ·omega
 ·have hk1:r.kind=1:=by have:=da h.shp;omega
  obtain ⟨h1,h2⟩:=List.pairwise_cons.1 (h.ok hk)
  exact List.pairwise_cons.2 ⟨fun c hc2=>B9 hk1 hc (h1 c hc2),h2⟩
theorem rM (l:List Ho) (p q:Pr):aq (eT l p) q=if q=p then ⟨0,0⟩ else aq l q:=by
 induction l with
 | nil=>simp [eT,aq]
 | cons x l ih =>
  rw [oZ]
  by_cases hx:x.proc=p
  ·rw [decide_eq_true hx,cond_true,ih]
   by_cases hq:q=p
   ·rw [if_pos hq,if_pos hq]
   ·rw [if_neg hq,if_neg hq]
    show _=bif decide (x.proc=q) then _ else _
    rw [decide_eq_false (fun e=>hq (e.symm.trans hx)),cond_false]
  ·rw [decide_eq_false hx,cond_false]
   show (bif decide (x.proc=q) then x.am else aq (eT l p) q)=_
   rw [ih]
   by_cases hq:q=p
   ·rw [if_pos hq,if_pos hq,decide_eq_false (fun e=>hx (e.trans hq)),cond_false]
   ·rw [if_neg hq,if_neg hq]
    rfl
theorem xh (x:Ho) (q:Pr):∀l:List Ho,(∀y∈l,y.proc≠x.proc)→aq (nq x l) q=if q=x.proc then x.am else aq l q
 | [],_=>by
  show (bif decide (x.proc=q) then x.am else ⟨0,0⟩)=_
  by_cases h:q=x.proc
  ·rw [if_pos h,decide_eq_true h.symm];rfl
  ·rw [if_neg h,decide_eq_false (fun e=>h e.symm)];rfl
 | y :: l,hl=>by
  have hy:=hl y (by simp)
  rw [iU]
  cases decide (0<cU y.proc x.proc) with
  | true =>
   show (bif decide (x.proc=q) then x.am else aq (y :: l) q)=_
   by_cases h:q=x.proc
   ·rw [if_pos h,decide_eq_true h.symm];rfl
   ·rw [if_neg h,decide_eq_false (fun e=>h e.symm)];rfl
  | false =>
   show (bif decide (y.proc=q) then y.am else aq (nq x l) q)=_
   rw [xh x q l fun z hz=>hl z (by simp [hz])]
   by_cases h:q=x.proc
   ·rw [if_pos h,if_pos h,decide_eq_false (fun e=>hy (e.trans h)),cond_false]
   ·rw [if_neg h,if_neg h];rfl
theorem AG {l:List Ho} {p:Pr}:∀y∈eT l p,y.proc≠p:=by
 intro y hy
 have:=(List.mem_filter.1 hy).2
 simpa using this
theorem eL (l:List Ho) (p:Pr) (a:Am) (q:Pr):aq (cV l p a) q=if q=p then a else aq l q:=by
 unfold cV
 cases hz:aO a with
 | true =>
  rw [cond_true,rM]
  have:a=⟨0,0⟩:=of_decide_eq_true hz
  rw [this]
 | false =>
  rw [cond_false,xh ⟨p,a⟩ q _ AG]
  show (if q=p then a else aq (eT l p) q)=_
  by_cases h:q=p
  ·rw [if_pos h,if_pos h]
  ·rw [if_neg h,if_neg h,rM,if_neg h]
theorem lI (x:Ho):∀l:List Ho,(nq x l).Perm (x :: l)
 | []=>List.Perm.refl _
 | y :: l=>by
  rw [iU]
  cases decide (0<cU y.proc x.proc) with
  | true=>exact List.Perm.refl _
  | false=>exact ((lI x l).cons y).trans (List.Perm.swap x y l)
theorem xi {x:Ho}:∀{l:List Ho},(du l).Pairwise fY→(∀y∈l,y.proc≠x.proc)→(du (nq x l)).Pairwise fY
 | [],_,_=>by simp [nq,du]
 | y :: l,h,hn=>by
  have h':(y.proc :: du l).Pairwise fY:=h
  obtain ⟨h1,h2⟩:=List.pairwise_cons.1 h'
  rw [iU]
  have hyx:=hn y (by simp)
  cases hc:decide (0<cU y.proc x.proc) with
  | true =>
   have hlt:fY x.proc y.proc:=by
    rcases jo x.proc y.proc with h3|h3|h3
    ·exact h3
    ·exact absurd h3.symm hyx
    ·have:=(gG _ _).2 h3
     have:=of_decide_eq_true hc
     omega
   refine List.pairwise_cons.2 ⟨?_,h⟩
   intro z hz
   rcases List.mem_cons.1 (show z∈y.proc :: du l from hz) with rfl|hz
   ·exact hlt
   ·exact cz hlt (h1 z hz)
  | false =>
   have hlt:fY y.proc x.proc:=by
    rcases jo x.proc y.proc with h3|h3|h3
    ·have h4:0<cU y.proc x.proc:=by
      rcases dU y.proc x.proc with ⟨h5,_⟩|⟨h5,_⟩|⟨_,h6⟩
      ·exact absurd h3 (lx h5)
      ·exact absurd h5 hyx
      ·omega
     rw [decide_eq_true h4] at hc
     cases hc
    ·exact absurd h3.symm hyx
    ·exact h3
   show (y.proc :: du (nq x l)).Pairwise fY
   refine List.pairwise_cons.2 ⟨?_,xi h2 fun z hz=>hn z (by simp [hz])⟩
   intro z hz
   obtain ⟨u,hu,rfl⟩:=List.mem_map.1 hz
   rcases List.mem_cons.1 ((lI x l).mem_iff.1 hu) with rfl|hu
   ·exact hlt
   ·exact h1 _ (List.mem_map.2 ⟨u,hu,rfl⟩)
theorem ko {l:List Ho} {p:Pr} (h:aq l p≠⟨0,0⟩):∃x∈l,x.proc=p∧x.am=aq l p:=by
 induction l with
 | nil=>exact absurd rfl h
 | cons x l ih =>
  by_cases hx:x.proc=p
  ·refine ⟨x,by simp,hx,?_⟩
   show x.am=bif decide (x.proc=p) then x.am else aq l p
   rw [decide_eq_true hx];rfl
  ·have e:aq (x :: l) p=aq l p:=by
    show (bif decide (x.proc=p) then x.am else aq l p)=_
    rw [decide_eq_false hx];rfl
   rw [e] at h ⊢
   obtain ⟨y,h1,h2⟩:=ih h
   exact ⟨y,by simp [h1],h2⟩
structure Hv (r:Rs) (l:List Ho):Prop where
 shp:bb r=true
 len:l.length≤8
 fit:∀x∈l,fI x.proc=true∧aH r x.am=true
 asc:(du l).Pairwise fY
 cmp:Comp r (no l)
theorem AH {r:Rs} {l:List Ho}:tT r l=true↔Hv r l:=by
 unfold tT
 simp only [Bool.and_eq_true,decide_eq_true_eq,xg,B7]
 constructor
 ·rintro ⟨⟨⟨h1,h2⟩,h3,h4,_⟩,h5⟩
  exact ⟨h1,h2,h3,h4,h5⟩
 ·rintro ⟨h1,h2,h3,h4,h5⟩
  exact ⟨⟨⟨h1,h2⟩,h3,h4,fun q hq=>by cases hq⟩,h5⟩
theorem pj {l:List Ho} {x:Ho} (ha:(du l).Pairwise fY) (hx:x∈l):l.Perm (x :: eT l x.proc):=by
 induction l with
 | nil=>cases hx
 | cons y l ih =>
  have ha':(y.proc :: du l).Pairwise fY:=ha
  obtain ⟨h1,h2⟩:=List.pairwise_cons.1 ha'
  rw [oZ]
  rcases List.mem_cons.1 hx with rfl|hx
  ·rw [decide_eq_true rfl,cond_true]
   have:eT l x.proc=l:=by
    unfold eT
    rw [List.filter_eq_self]
    intro z hz
    have h3:=h1 z.proc (List.mem_map.2 ⟨z,hz,rfl⟩)
    have h4:z.proc≠x.proc:=fun e=>bE _ (e▸h3)
    simpa using h4
   rw [this]
  ·have h3:=h1 x.proc (List.mem_map.2 ⟨x,hx,rfl⟩)
   have h4:y.proc≠x.proc:=fun e=>bE _ (e▸h3)
   rw [decide_eq_false h4,cond_false]
   exact ((ih h2 hx).cons y).trans (List.Perm.swap x y _)
theorem xj {l:List Ho} (p:Pr) (h:(du l).Pairwise fY):(du (eT l p)).Pairwise fY:=by
 unfold du eT
 exact h.sublist ((List.filter_sublist).map _)
theorem DS {l:List Ho} {p:Pr} (h:∀x∈l,x.proc≠p):eT l p=l:=by
 unfold eT
 rw [List.filter_eq_self]
 intro x hx
 simpa using h x hx
theorem Hv.fil {r:Rs} {l:List Ho} (h:Hv r l) (p:Pr):Hv r (eT l p):=by
 refine ⟨h.shp,Nat.le_trans (nr l p) h.len,fun x hx=>h.fit x (List.mem_filter.1 hx).1,xj p h.asc,?_⟩
 by_cases hp:∃x∈l,x.proc=p
 ·obtain ⟨x,hx,rfl⟩:=hp
  exact (h.cmp.perm ((pj h.asc hx).map _)).tail
 ·rw [DS fun x hx e=>hp ⟨x,hx,e⟩]
  exact h.cmp
theorem Hv.lower {r:Rs} {l:List Ho} (h:Hv r l) {p:Pr} {a:Am} (hc:bq r (aq l p) a=true) (h0:aq l p≠⟨0,0⟩):Hv r (cV l p a)∧(cV l p a).length≤l.length:=by
 unfold cV
 cases hz:aO a with
 | true=>exact ⟨h.fil p,nr l p⟩
 | false =>
  obtain ⟨x,hx,hp,ham⟩:=ko h0
  subst hp
  rw [←ham] at hc
  have hs:=pj h.asc hx
  have hl:(eT l x.proc).length+1=l.length:=by rw [hs.length_eq];rfl
  have hlen:(nq ⟨x.proc,a⟩ (eT l x.proc)).length=l.length:=by rw [nu,hl]
  rw [cond_false]
  refine ⟨⟨h.shp,by rw [hlen];exact h.len,?_,xi (xj _ h.asc) AG,?_⟩,Nat.le_of_eq hlen⟩
  ·intro y hy
   rcases List.mem_cons.1 ((lI _ _).mem_iff.1 hy) with rfl|hy
   ·refine ⟨(h.fit x hx).1,?_⟩
    unfold bq cQ at hc
    simp only [Bool.and_eq_true,Bool.or_eq_true] at hc
    rcases hc.1.2.2 with h1|h1
    ·rw [hz] at h1;cases h1
    ·exact h1
   ·exact h.fit y (List.mem_filter.1 hy).1
  ·have h1:Comp r (x.am :: no (eT l x.proc)):=h.cmp.perm (hs.map _)
   have h2:=h1.lower hc
   exact h2.perm (by have:=(lI ⟨x.proc,a⟩ (eT l x.proc)).symm.map Ho.am;exact this)
theorem qb {p:Pr}:∀{l:List Wt} {k:Nat},(∀x∈l,x.proc≠p)→gW p k l = -1
 | [],_,_=>rfl
 | x :: l,k,h=>by
  rw [fc,decide_eq_false (h x (by simp)),cond_false]
  exact qb fun y hy=>h y (by simp [hy])
theorem qc {p:Pr}:∀{l:List Wt} {k:Nat},(∃x∈l,x.proc=p)→(k:Int)≤gW p k l∧gW p k l<(k:Int)+l.length
 | [],_,h=>by obtain ⟨_,h,_⟩:=h;cases h
 | x :: l,k,h=>by
  rw [fc]
  by_cases hx:x.proc=p
  ·rw [decide_eq_true hx,cond_true,List.length_cons]
   omega
  ·rw [decide_eq_false hx,cond_false,List.length_cons]
   have h2:∃y∈l,y.proc=p:=by
    obtain ⟨y,hy,e⟩:=h
    rcases List.mem_cons.1 hy with rfl|hy
    ·exact absurd e hx
    ·exact ⟨y,hy,e⟩
   have:=qc (k:=k+1) h2
   omega
theorem Ca {l:List Wt} {p:Pr}:eH l p<0↔∀x∈l,x.proc≠p:=by
 constructor
 ·intro h x hx e
  have:=(qc (k:=0) ⟨x,hx,e⟩).1
  unfold eH at h
  omega
 ·intro h
  unfold eH
  rw [qb h]
  omega
theorem rN:∀(l:List Wt) (k:Nat) (all:List Wt) (pre:List Wt),all=pre++l→k=pre.length→(bU pre).Nodup→((∀j (h:j<l.length),eH all l[j].proc=((k+j:Nat):Int))↔(bU all).Nodup)
 | [],k,all,pre,hall,_,hp=>by
  subst hall
  simpa using hp
 | x :: l,k,all,pre,hall,hk,hp=>by
  have hx:eH all x.proc=(k:Int)↔∀y∈pre,y.proc≠x.proc:=by
   have gen:∀(pre:List Wt) (k0:Nat),gW x.proc k0 (pre++x :: l)=((k0+pre.length:Nat):Int)↔∀y∈pre,y.proc≠x.proc:=by
    intro pre
    induction pre with
    | nil=>intro k0;simp [fc]
    | cons y pre ih =>
     intro k0
     rw [List.cons_append,fc,List.length_cons]
     by_cases hy:y.proc=x.proc
     ·rw [decide_eq_true hy,cond_true]
      constructor
      ·intro h;omega
      ·intro h;exact absurd hy (h y (by simp))
     ·rw [decide_eq_false hy,cond_false]
      have h1:=ih (k0+1)
      have e1:((k0+(pre.length+1):Nat):Int)=((k0+1+pre.length:Nat):Int):=by omega
      rw [e1,h1]
      constructor
      ·intro h z hz
       rcases List.mem_cons.1 hz with rfl|hz
       ·exact hy
       ·exact h z hz
      ·intro h z hz;exact h z (by simp [hz])
   rw [hall,hk]
   have:=gen pre 0
   rwa [Nat.zero_add] at this
  have ih:=fun hp2=>rN l (k+1) all (pre++[x]) (by rw [hall];simp) (by simp [hk]) hp2
  have hpx:(bU (pre++[x])).Nodup↔∀y∈pre,y.proc≠x.proc:=by
   unfold bU at hp ⊢
   rw [List.map_append,List.nodup_append]
   constructor
   ·rintro ⟨_,_,h⟩ y hy
    exact h y.proc (List.mem_map.2 ⟨y,hy,rfl⟩) x.proc (by simp)
   ·intro h
    refine ⟨hp,by simp,?_⟩
    intro a ha b hb
    obtain ⟨y,hy,rfl⟩:=List.mem_map.1 ha
    simp at hb
    subst hb
    exact h y hy
  constructor
  ·intro h
   have h0:eH all x.proc=(k:Int):=by have:=h 0 (by simp);simpa using this
   refine (ih (hpx.2 (hx.1 h0))).1 fun j hj=>?_
   have:=h (j+1) (by simp;omega)
   simp only [List.getElem_cons_succ] at this
   rw [this]
   omega
  ·intro h j hj
   have h1:(bU (pre++[x])).Nodup:=by
    have e:bU all=bU (pre++[x])++bU l:=by rw [hall];simp [bU]
    rw [e] at h
    exact (List.nodup_append.1 h).1
   cases j with
   | zero=>simpa using hx.2 (hpx.1 h1)
   | succ j =>
    have:=(ih h1).2 h j (by simp at hj;omega)
    simp only [List.getElem_cons_succ]
    rw [this]
    omega
theorem qd (l:List Wt):(∀j (h:j<l.length),eH l l[j].proc=((j:Nat):Int))↔(bU l).Nodup:=by
 have:=rN l 0 l [] rfl rfl (by simp [bU])
 simpa using this
theorem xk (all:List Wt):∀(l:List Wt) (k:Nat),wP all k l=true↔(∀x∈l,tt x=true)∧∀j (h:j<l.length),eH all l[j].proc=((k+j:Nat):Int)
 | [],k=>by simp [wP]
 | x :: l,k=>by
  rw [oX]
  simp only [Bool.and_eq_true,decide_eq_true_eq,xk all l]
  constructor
  ·rintro ⟨⟨h1,h2⟩,h3,h4⟩
   refine ⟨?_,?_⟩
   ·intro y hy
    rcases List.mem_cons.1 hy with rfl|hy
    ·exact h1
    ·exact h3 y hy
   ·intro j hj
    cases j with
    | zero=>simpa using h2
    | succ j =>
     have:=h4 j (by simp at hj;omega)
     simp only [List.getElem_cons_succ]
     rw [this]
     omega
  ·rintro ⟨h1,h2⟩
   refine ⟨⟨h1 x (by simp),by have:=h2 0 (by simp);simpa using this⟩,fun y hy=>h1 y (by simp [hy]),fun j hj=>?_⟩
   have:=h2 (j+1) (by simp;omega)
   simp only [List.getElem_cons_succ] at this
   rw [this]
   omega
theorem ud {l:List Wt}:gX l=true↔l.length≤8∧(∀x∈l,tt x=true)∧(bU l).Nodup:=by
 unfold gX
 simp only [Bool.and_eq_true,decide_eq_true_eq,xk,Nat.zero_add,qd]
structure CvOk (r:Rs) (hs:List Ho) (x:Wt):Prop where
 held:aq hs x.proc≠⟨0,0⟩
 fit:aH r x.am=true
 cov:bq r x.am (aq hs x.proc)=true
 ne:x.am≠aq hs x.proc
 prio:x.prio=0
 passed:x.passed=0
theorem bz {a:Am}:aO a=false↔a≠⟨0,0⟩:=by unfold aO;simp
theorem xl (q:Qu):∀(l:List Wt) (k:Nat),tw q k l=true↔(∀x∈l,CvOk q.res q.holds x)∧∀j (h:j<l.length),eH q.convs l[j].proc=((k+j:Nat):Int)
 | [],k=>by simp [tw]
 | x :: l,k=>by
  rw [ly,Bool.and_eq_true,xl q l]
  have h0:Dj q k x=true↔CvOk q.res q.holds x∧eH q.convs x.proc=(k:Int):=by
   unfold Dj
   simp only [Bool.and_eq_true,decide_eq_true_eq,Bool.not_eq_true',bz,decide_eq_false_iff_not]
   constructor
   ·rintro ⟨⟨⟨⟨⟨⟨h1,h2⟩,h3⟩,h4⟩,h5⟩,h6⟩,h7⟩
    exact ⟨⟨h2,h3,h4,h5,h6,h7⟩,h1⟩
   ·rintro ⟨⟨h2,h3,h4,h5,h6,h7⟩,h1⟩
    exact ⟨⟨⟨⟨⟨⟨h1,h2⟩,h3⟩,h4⟩,h5⟩,h6⟩,h7⟩
  rw [h0]
  constructor
  ·rintro ⟨⟨h1,h2⟩,h3,h4⟩
   refine ⟨?_,?_⟩
   ·intro y hy
    rcases List.mem_cons.1 hy with rfl|hy
    ·exact h1
    ·exact h3 y hy
   ·intro j hj
    cases j with
    | zero=>simpa using h2
    | succ j =>
     have:=h4 j (by simp at hj;omega)
     simp only [List.getElem_cons_succ]
     rw [this]
     omega
  ·rintro ⟨h1,h2⟩
   refine ⟨⟨h1 x (by simp),by have:=h2 0 (by simp);simpa using this⟩,fun y hy=>h1 y (by simp [hy]),fun j hj=>?_⟩
   have:=h2 (j+1) (by simp;omega)
   simp only [List.getElem_cons_succ] at this
   rw [this]
   omega
theorem xm (q:Qu):∀l:List Wt,re q l=true↔∀x∈l,aH q.res x.am=true∧aq q.holds x.proc=⟨0,0⟩
 | []=>by simp [re]
 | x :: l=>by
  rw [lz]
  simp only [Bool.and_eq_true,xm q l]
  have hz:aO (aq q.holds x.proc)=true↔aq q.holds x.proc=⟨0,0⟩:=by unfold aO;simp
  rw [hz]
  constructor
  ·rintro ⟨⟨h1,h2⟩,h3⟩ y hy
   rcases List.mem_cons.1 hy with rfl|hy
   ·exact ⟨h1,h2⟩
   ·exact h3 y hy
  ·intro h
   exact ⟨h x (by simp),fun y hy=>h y (by simp [hy])⟩
structure Sd (q:Qu):Prop where
 res:mm q.res=true
 hv:Hv q.res q.holds
 clen:q.convs.length≤8
 cnd:(bU q.convs).Nodup
 cok:∀x∈q.convs,CvOk q.res q.holds x
 wlen:q.holds.length+q.waits.length≤8
 wnd:(bU q.waits).Nodup
 wok:∀x∈q.waits,tt x=true∧aH q.res x.am=true∧aq q.holds x.proc=⟨0,0⟩
 gen:0≤q.gen∧q.gen≤1073741824
theorem rO {q:Qu}:et q=true↔Sd q:=by
 unfold et F9 Ga
 simp only [Bool.and_eq_true,decide_eq_true_eq,AH,xl,xm,ud,Nat.zero_add,qd]
 constructor
 ·rintro ⟨⟨⟨⟨⟨h1,h2⟩,h3,h4,h5⟩,⟨⟨h6,h7,h8⟩,h9⟩,h10⟩,h11⟩,h12⟩
  exact ⟨h1,h2,h3,h5,h4,h9,h8,fun x hx=>⟨h7 x hx,h10 x hx⟩,h11,h12⟩
 ·rintro ⟨h1,h2,h3,h5,h4,h9,h8,h7,h11,h12⟩
  exact ⟨⟨⟨⟨⟨h1,h2⟩,h3,h4,h5⟩,⟨⟨by omega,fun x hx=>(h7 x hx).1,h8⟩,h9⟩,fun x hx=>(h7 x hx).2⟩,h11⟩,h12⟩
theorem Sd.noboth {q:Qu} (h:Sd q) {x y:Wt} (hx:x∈q.convs) (hy:y∈q.waits):x.proc≠y.proc:=fun e=>by
 have h1:=(h.cok x hx).held
 rw [e,(h.wok y hy).2.2] at h1
 exact h1 rfl
def g8 (q:Qu) (x:Wt):Qu:=match q.convs with
 | _ :: l=>{ q with convs:=l,holds:=cV q.holds x.proc x.am }
 | []=>{ q with waits:=q.waits.tail,holds:=cV q.holds x.proc x.am }
theorem vF {l:List Ho} {p:Pr} {a:Am} (ha:(du l).Pairwise fY) (h0:aq l p≠⟨0,0⟩):(cV l p a).length≤l.length:=by
 obtain ⟨x,hx,hp,_⟩:=ko h0
 subst hp
 have hs:=(pj ha hx).length_eq
 rw [List.length_cons] at hs
 unfold cV
 cases aO a with
 | true=>rw [cond_true];omega
 | false=>rw [cond_false,nu];omega
theorem GQ {r:Rs} {l:List Ho} {p:Pr} {a:Am} (h:gZ r l p a=true):Hv r (cV l p a):=by
 unfold gZ at h
 rw [Bool.and_eq_true] at h
 exact AH.1 h.2
theorem CvOk.set {r:Rs} {hs:List Ho} {x:Wt} {p:Pr} {a:Am} (h:CvOk r hs x) (hp:x.proc≠p):CvOk r (cV hs p a) x:=by
 have e:aq (cV hs p a) x.proc=aq hs x.proc:=by rw [eL,if_neg hp]
 exact ⟨by rw [e];exact h.held,h.fit,by rw [e];exact h.cov,by rw [e];exact h.ne,h.prio,h.passed⟩
theorem Sd.pop {q:Qu} (h:Sd q) {x:Wt} (hx:dP q=some x) (hr:gZ q.res q.holds x.proc x.am=true):Sd (g8 q x):=by
 obtain ⟨res,hs,cs,ws,gen⟩:=q
 unfold dP at hx
 unfold g8
 have hv:=GQ hr
 cases cs with
 | cons c l =>
  injection hx with hx
  subst hx
  have hn:(c.proc :: bU l).Nodup:=h.cnd
  rw [List.nodup_cons] at hn
  refine ⟨h.res,hv,by have:=h.clen;simp at this;show l.length≤8;omega,hn.2,?_,?_,h.wnd,?_,h.gen⟩
  ·intro y hy
   exact (h.cok y (by simp [hy])).set fun e=>hn.1 (e▸List.mem_map.2 ⟨y,hy,rfl⟩)
  ·have h1:=vF (a:=c.am) h.hv.asc (h.cok c (by simp)).held
   have h2:=h.wlen
   show (cV hs c.proc c.am).length+ws.length≤8
   simp only at h1 h2
   omega
  ·intro y hy
   refine ⟨(h.wok y hy).1,(h.wok y hy).2.1,?_⟩
   show aq (cV hs c.proc c.am) y.proc=_
   rw [eL,if_neg (fun e=>h.noboth (x:=c) (by simp) hy e.symm)]
   exact (h.wok y hy).2.2
 | nil =>
  cases ws with
  | nil=>cases hx
  | cons c l =>
   have hx':some c=some x:=hx
   injection hx' with hx'
   subst hx'
   have hn:(c.proc :: bU l).Nodup:=h.wnd
   rw [List.nodup_cons] at hn
   refine ⟨h.res,hv,by simp,by simp [bU],fun y hy=>absurd hy (by simp),?_,hn.2,?_,h.gen⟩
   ·have h1:=Di hs c.proc c.am
    have h2:=h.wlen
    show (cV hs c.proc c.am).length+l.length≤8
    simp only [List.length_cons] at h2
    omega
   ·intro y hy
    have hy':y∈l:=hy
    refine ⟨(h.wok y (by simp [hy'])).1,(h.wok y (by simp [hy'])).2.1,?_⟩
    show aq (cV hs c.proc c.am) y.proc=_
    rw [eL,if_neg (show ¬y.proc=c.proc from fun e=>hn.1 (e▸List.mem_map.2 ⟨y,hy',rfl⟩))]
    exact (h.wok y (by simp [hy'])).2.2
def eM:Nat→Qu→List Ho→Qu×List Ho
 | 0,q,acc=>(q,acc)
 | n+1,q,acc=>match dP q with
  | none=>(q,acc)
  | some x=>bif gZ q.res q.holds x.proc x.am then eM n (g8 q x) (acc++[⟨x.proc,x.am⟩]) else (q,acc)
def gE (q:Qu):Nat:=q.convs.length+q.waits.length
def vG (q:Qu):Qu×List Ho:=eM (gE q) q []
theorem zp {q:Qu} {x:Wt} (hx:dP q=some x):gE (g8 q x)+1=gE q:=by
 obtain ⟨res,hs,cs,ws,gen⟩:=q
 unfold dP at hx
 unfold g8 gE
 cases cs with
 | cons c l=>simp;omega
 | nil =>
  cases ws with
  | nil=>cases hx
  | cons c l=>simp
theorem db {q:Qu}:ar q=true↔Sd q∧∀x,dP q=some x→gZ q.res q.holds x.proc x.am=false:=by
 unfold ar
 rw [Bool.and_eq_true,rO]
 cases dP q with
 | none=>simp
 | some x=>simp
theorem DT (q:Qu) (x:Wt):(g8 q x).gen=q.gen∧(g8 q x).res=q.res:=by
 unfold g8
 cases q.convs <;> exact ⟨rfl,rfl⟩
theorem mt:∀(n:Nat) (q:Qu) (acc:List Ho),Sd q→gE q≤n→ar (eM n q acc).1=true∧(eM n q acc).1.gen=q.gen∧(eM n q acc).1.res=q.res
 | 0,q,acc,h,hn=>by
  refine ⟨db.2 ⟨h,fun x hx=>?_⟩,rfl,rfl⟩
  have:=zp (show dP q=some x from hx)
  omega
 | n+1,q,acc,h,hn=>by
  unfold eM
  cases hx:dP q with
  | none=>exact ⟨db.2 ⟨h,fun x hx2=>by rw [hx] at hx2;cases hx2⟩,rfl,rfl⟩
  | some x =>
   dsimp only
   cases hr:gZ q.res q.holds x.proc x.am with
   | false =>
    rw [cond_false]
    refine ⟨db.2 ⟨h,fun y hy=>?_⟩,rfl,rfl⟩
    rw [hx] at hy
    injection hy with hy
    subst hy
    exact hr
   | true =>
    rw [cond_true]
    have h1:=zp hx
    have h2:=mt n (g8 q x) (acc++[⟨x.proc,x.am⟩]) (h.pop hx hr) (by omega)
    have h3:=DT q x
    exact ⟨h2.1,h2.2.1.trans h3.1,h2.2.2.trans h3.2⟩
theorem vH {q:Qu} (h:Sd q):ar (vG q).1=true∧(vG q).1.gen=q.gen∧(vG q).1.res=q.res:=mt _ q [] h (Nat.le_refl _)
def fL (q:Qu):Qu×List Ho:=({ (vG q).1 with gen:=bh q.gen },(vG q).2)
theorem nN {n:Int}:1≤bh n∧bh n≤1073741824:=by unfold bh;split <;> omega
theorem Sd.regen {q:Qu} (h:Sd q) {g:Int} (hg:0≤g∧g≤1073741824):Sd { q with gen:=g }:=⟨h.res,h.hv,h.clen,h.cnd,h.cok,h.wlen,h.wnd,h.wok,hg⟩
theorem nO {q:Qu} (h:Sd q):ar (fL q).1=true∧(fL q).1.res=q.res:=by
 have h1:=vH h
 obtain ⟨h2,h3⟩:=db.1 h1.1
 refine ⟨db.2 ⟨h2.regen (by have:=nN (n:=q.gen);omega),fun x hx=>h3 x hx⟩,h1.2.2⟩
def vI (a b:Int):Int:=bif dy 1 a && dy 1 b then 1 else bif dy 2 a && dy 2 b then 2 else bif dy 3 a && dy 3 b then 3 else bif dy 4 a && dy 4 b then 4 else bif dy 5 a && dy 5 b then 5 else 0
def bV (r:Rs) (a b:Am):Am:=bif cQ r a && cQ r b then (bif bq r a b then a else bif bq r b a then b else ⟨vI a.mode b.mode,0⟩) else ⟨0,0⟩
theorem Jc {h a:Int} (h1:cl h=true) (h2:cl a=true) (hc:dy h a=false) :
  cl (bif dy a h then a else vI h a)=true∧dy (bif dy a h then a else vI h a) h=true∧dy (bif dy a h then a else vI h a) a=true∧(bif dy a h then a else vI h a)≠h:=by
 unfold cl at h1 h2
 simp only [Bool.and_eq_true,decide_eq_true_eq] at h1 h2
 have e1:h=1∨h=2∨h=3∨h=4∨h=5:=by omega
 have e2:a=1∨a=2∨a=3∨a=4∨a=5:=by omega
 rcases e1 with rfl|rfl|rfl|rfl|rfl <;> rcases e2 with rfl|rfl|rfl|rfl|rfl <;> first|(exact absurd hc (by decide))|decide
theorem cE {r:Rs} {a:Am} (h:aH r a=true):cQ r a=true:=by
 have h2:=h
 unfold aH at h2
 unfold cQ
 rw [Bool.and_eq_true] at h2 ⊢
 exact ⟨h2.1,by rw [h,Bool.or_true]⟩
theorem dR {r:Rs} {a:Am} (h:aH r a=true):aO a=false:=by
 rw [bz]
 rintro rfl
 unfold aH cl at h
 simp at h
theorem rP {r:Rs} {a:Am} (h:aH r a=true):bq r a a=true:=by
 have hp:=cE h
 have hz:=dR h
 unfold bq
 rw [hp,hz]
 unfold aH at h
 by_cases hk:r.kind=1
 ·rw [if_pos hk] at h
  rw [if_pos hk]
  simp only [Bool.and_eq_true] at h
  unfold dy
  simp [h.2.1]
 ·simp [hk]
theorem AI {r:Rs} {h a:Am} (h1:aH r h=true) (h2:aH r a=true) (hc:bq r h a=false) :
  aH r (bV r h a)=true∧bq r (bV r h a) h=true∧bq r (bV r h a) a=true∧bV r h a≠h:=by
 have p1:=cE h1
 have p2:=cE h2
 have z1:=dR h1
 have z2:=dR h2
 have hs:bb r=true:=by unfold aH at h1;rw [Bool.and_eq_true] at h1;exact h1.1
 unfold bV
 rw [p1,p2,hc]
 simp only [Bool.and_true,cond_true,cond_false]
 rcases da hs with ⟨hk,_⟩|⟨hk,_⟩
 ·obtain ⟨hm,hu⟩:=h
  obtain ⟨am,au⟩:=a
  have f1:=h1
  have f2:=h2
  unfold aH at f1 f2
  rw [if_pos hk] at f1 f2
  simp only [Bool.and_eq_true,decide_eq_true_eq] at f1 f2
  obtain ⟨_,m1,rfl⟩:=f1
  obtain ⟨_,m2,rfl⟩:=f2
  have cv:∀x y:Int,cl x=true→cl y=true→bq r ⟨x,0⟩ ⟨y,0⟩=dy x y:=by
   intro x y hx hy
   have ft:∀z:Int,cl z=true→aH r ⟨z,0⟩=true:=by intro z hz;unfold aH;rw [if_pos hk,hs,hz];rfl
   have p3:=cE (ft x hx)
   have p4:=cE (ft y hy)
   have z3:=dR (ft x hx)
   have z4:=dR (ft y hy)
   unfold bq
   rw [p3,p4,z3,z4,if_pos hk]
   rfl
  rw [cv _ _ m1 m2] at hc
  obtain ⟨s1,s2,s3,s4⟩:=Jc m1 m2 hc
  rw [cv _ _ m2 m1]
  have e:(bif dy am hm then (⟨am,0⟩:Am) else ⟨vI hm am,0⟩)=⟨bif dy am hm then am else vI hm am,0⟩:=by cases dy am hm <;> rfl
  rw [e,cv _ _ s1 m1,cv _ _ s1 m2]
  refine ⟨?_,s2,s3,?_⟩
  ·unfold aH
   rw [if_pos hk,hs,s1]
   rfl
  ·intro h
   injection h with h
   exact s4 h
 ·have hk1:¬r.kind=1:=by omega
  have hc2:h.units<a.units:=by
   unfold bq at hc
   rw [p1,p2,z1,z2,if_neg hk1] at hc
   simpa using hc
  have c2:bq r a h=true:=by
   unfold bq
   rw [p1,p2,z1,z2,if_neg hk1]
   simp
   omega
  rw [c2,cond_true]
  exact ⟨h2,c2,rP h2,fun e=>by rw [e] at hc2;omega⟩
def rQ (x:Wt):Wt:={ x with passed:=x.passed+1 }
def kq (w:Wt) (l:List Wt):Nat→Nat
 | 0=>0
 | n+1=>match l[n]? with
  | none=>n+1
  | some x=>bif decide (x.prio<w.prio) && decide (x.passed<3) then kq w l n else n+1
def i6 (l:List Wt) (w:Wt):List Wt:=l.take (kq w l l.length)++w :: (l.drop (kq w l l.length)).map rQ
theorem AJ (w:Wt) (l:List Wt):∀n,kq w l n≤n
 | 0=>Nat.le_refl _
 | n+1=>by
  unfold kq
  cases l[n]? with
  | none=>exact Nat.le_refl _
  | some x =>
   dsimp only
   cases decide (x.prio<w.prio) && decide (x.passed<3) with
   | true=>have:=AJ w l n;simp only [cond_true];omega
   | false=>exact Nat.le_refl _
theorem ue (w:Wt) (l:List Wt):∀n j x,kq w l n≤j→j<n→l[j]? = some x→x.prio<w.prio∧x.passed<3
 | 0,_,_,_,h,_=>absurd h (by omega)
 | n+1,j,x,hk,hj,hx=>by
  unfold kq at hk
  by_cases hjn:j=n
  ·subst hjn
   rw [hx] at hk
   dsimp only at hk
   cases hc:decide (x.prio<w.prio) && decide (x.passed<3) with
   | true=>simpa using hc
   | false=>rw [hc] at hk;simp only [cond_false] at hk;omega
  ·cases hn:l[n]? with
   | none=>rw [hn] at hk;dsimp only at hk;omega
   | some y =>
    rw [hn] at hk
    dsimp only at hk
    cases hc:decide (y.prio<w.prio) && decide (y.passed<3) with
    | true=>rw [hc] at hk;exact ue w l n j x hk (by omega) hx
    | false=>rw [hc] at hk;simp only [cond_false] at hk;omega
theorem xn (l:List Wt) (w:Wt):(i6 l w).length=l.length+1:=by
 unfold i6
 have:=AJ w l l.length
 simp
 omega
theorem zq (l:List Wt) (w:Wt):(bU (i6 l w)).Perm (w.proc :: bU l):=by
 have e:bU (i6 l w)=bU (l.take (kq w l l.length))++w.proc :: bU (l.drop (kq w l l.length)):=by
  unfold i6 bU
  rw [List.map_append,List.map_cons,List.map_map]
  rfl
 have e2:bU l=bU (l.take (kq w l l.length))++bU (l.drop (kq w l l.length)):=by
  unfold bU
  rw [←List.map_append,List.take_append_drop]
 rw [e]
 conv=>rhs;rw [e2]
 exact List.perm_middle
theorem rR {l:List Wt} {w x:Wt} (hx:x∈i6 l w):x=w∨x∈l∨∃y∈l,x=rQ y∧y.prio<w.prio∧y.passed<3:=by
 unfold i6 at hx
 rcases List.mem_append.1 hx with hx|hx
 ·exact .inr (.inl (List.mem_of_mem_take hx))
 ·rcases List.mem_cons.1 hx with hx|hx
  ·exact .inl hx
  ·obtain ⟨y,hy,rfl⟩:=List.mem_map.1 hx
   obtain ⟨j,hj,e⟩:=List.mem_iff_getElem.1 hy
   rw [List.getElem_drop] at e
   rw [List.length_drop] at hj
   have h1:=ue w l l.length (kq w l l.length+j) y (by omega) (by omega) (by rw [List.getElem?_eq_getElem (by omega),e])
   exact .inr (.inr ⟨y,List.mem_of_mem_drop hy,rfl,h1⟩)
theorem dN {l:List Wt} {p:Pr}:g4 l p=none↔∀x∈l,x.proc≠p:=by
 induction l with
 | nil=>simp [g4]
 | cons x l ih =>
  rw [cA]
  by_cases hx:x.proc=p
  ·rw [decide_eq_true hx,cond_true]
   constructor
   ·intro h;cases h
   ·intro h;exact absurd hx (h x (by simp))
  ·rw [decide_eq_false hx,cond_false,ih]
   constructor
   ·intro h y hy
    rcases List.mem_cons.1 hy with rfl|hy
    ·exact hx
    ·exact h y hy
   ·intro h y hy;exact h y (by simp [hy])
theorem Cb {l:List Wt} {p:Pr} {a:Am} (h:g4 l p=some a):∃x∈l,x.proc=p∧x.am=a:=by
 induction l with
 | nil=>cases h
 | cons x l ih =>
  rw [cA] at h
  by_cases hx:x.proc=p
  ·rw [decide_eq_true hx,cond_true] at h
   injection h with h
   exact ⟨x,by simp,hx,h⟩
  ·rw [decide_eq_false hx,cond_false] at h
   obtain ⟨y,h1,h2⟩:=ih h
   exact ⟨y,by simp [h1],h2⟩
theorem eN (l m:List Wt) (p:Pr):g4 (l++m) p=match g4 l p with|some a=>some a|none=>g4 m p:=by
 induction l with
 | nil=>rfl
 | cons x l ih =>
  rw [List.cons_append,cA,cA]
  cases decide (x.proc=p) with
  | true=>rfl
  | false=>exact ih
theorem rS {l:List Wt} {x:Wt} (hn:(bU l).Nodup) (hx:x∈l):g4 l x.proc=some x.am:=by
 induction l with
 | nil=>cases hx
 | cons y l ih =>
  have hn':(y.proc :: bU l).Nodup:=hn
  rw [List.nodup_cons] at hn'
  rw [cA]
  rcases List.mem_cons.1 hx with rfl|hx
  ·rw [decide_eq_true rfl];rfl
  ·have:y.proc≠x.proc:=fun e=>hn'.1 (e▸List.mem_map.2 ⟨x,hx,rfl⟩)
   rw [decide_eq_false this,cond_false]
   exact ih hn'.2 hx
theorem Sd.nd {q:Qu} (h:Sd q):(bU (q.convs++q.waits)).Nodup:=by
 unfold bU
 rw [List.map_append,List.nodup_append]
 refine ⟨h.cnd,h.wnd,?_⟩
 intro a ha b hb
 obtain ⟨x,hx,rfl⟩:=List.mem_map.1 ha
 obtain ⟨y,hy,rfl⟩:=List.mem_map.1 hb
 exact h.noboth hx hy
theorem GR {q:Qu} (h:Sd q) {x:Wt} (hx:dP q=some x) (p:Pr):(p≠x.proc∧aq (g8 q x).holds p=aq q.holds p∧ap (g8 q x) p=ap q p)∨(p=x.proc∧ap q p=some x.am∧aq (g8 q x).holds p=x.am∧ap (g8 q x) p=none):=by
 have hn:=h.nd
 obtain ⟨res,hs,cs,ws,gen⟩:=q
 unfold dP at hx
 unfold g8 ap
 cases cs with
 | cons c l =>
  injection hx with hx
  subst hx
  have hn':(c.proc :: bU (l++ws)).Nodup:=hn
  rw [List.nodup_cons] at hn'
  dsimp only
  rw [List.cons_append,cA,eL]
  by_cases hp:p=c.proc
  ·subst hp
   refine .inr ⟨rfl,by rw [decide_eq_true rfl];rfl,by rw [if_pos rfl],?_⟩
   rw [dN]
   intro y hy e
   exact hn'.1 (e▸List.mem_map.2 ⟨y,hy,rfl⟩)
  ·exact .inl ⟨hp,by rw [if_neg hp],by rw [decide_eq_false (fun e=>hp e.symm)];rfl⟩
 | nil =>
  cases ws with
  | nil=>cases hx
  | cons c l =>
   have hx':some c=some x:=hx
   injection hx' with hx'
   subst hx'
   have hn':(c.proc :: bU l).Nodup:=hn
   rw [List.nodup_cons] at hn'
   dsimp only
   rw [List.nil_append,List.nil_append,List.tail_cons,cA,eL]
   by_cases hp:p=c.proc
   ·subst hp
    refine .inr ⟨rfl,by rw [decide_eq_true rfl];rfl,by rw [if_pos rfl],?_⟩
    rw [dN]
    intro y hy e
    exact hn'.1 (e▸List.mem_map.2 ⟨y,hy,rfl⟩)
   ·exact .inl ⟨hp,by rw [if_neg hp],by rw [decide_eq_false (fun e=>hp e.symm)];rfl⟩
theorem AK:∀(n:Nat) (q:Qu) (acc:List Ho),Sd q→∀p,(aq (eM n q acc).1.holds p=aq q.holds p∧ap (eM n q acc).1 p=ap q p)∨∃a,ap q p=some a∧aq (eM n q acc).1.holds p=a∧ap (eM n q acc).1 p=none
 | 0,q,acc,_,p=>.inl ⟨rfl,rfl⟩
 | n+1,q,acc,h,p=>by
  unfold eM
  cases hx:dP q with
  | none=>exact .inl ⟨rfl,rfl⟩
  | some x =>
   dsimp only
   cases hr:gZ q.res q.holds x.proc x.am with
   | false=>exact .inl ⟨rfl,rfl⟩
   | true =>
    rw [cond_true]
    have h1:=AK n (g8 q x) (acc++[⟨x.proc,x.am⟩]) (h.pop hx hr) p
    rcases GR h hx p with ⟨_,h2,h3⟩|⟨_,h2,h3,h4⟩
    ·rw [h2,h3] at h1
     exact h1
    ·rcases h1 with ⟨h5,h6⟩|⟨a,h5,_⟩
     ·exact .inr ⟨x.am,h2,h5.trans h3,h6.trans h4⟩
     ·rw [h4] at h5
      cases h5
theorem uf:∀(n:Nat) (q:Qu) (acc:List Ho),∀x∈(eM n q acc).1.waits,x∈q.waits
 | 0,q,acc,x,hx=>hx
 | n+1,q,acc,x,hx=>by
  unfold eM at hx
  cases hh:dP q with
  | none=>rw [hh] at hx;exact hx
  | some y =>
   rw [hh] at hx
   dsimp only at hx
   cases hr:gZ q.res q.holds y.proc y.am with
   | false=>rw [hr] at hx;exact hx
   | true =>
    rw [hr,cond_true] at hx
    have h1:=uf n (g8 q y) _ x hx
    unfold g8 at h1
    split at h1
    ·exact h1
    ·exact List.mem_of_mem_tail h1
def vJ:Qu:=⟨⟨⟨#[]⟩,0,0,0⟩,[],[],[],0⟩
def cG (l:List Wt) (p:Pr):List Wt:=l.filter fun x=>!decide (x.proc=p)
theorem g9 {l:List Wt} {p:Pr} {x:Wt}:x∈cG l p↔x∈l∧x.proc≠p:=by unfold cG;simp
theorem AL {l:List Wt} (p:Pr) (h:(bU l).Nodup):(bU (cG l p)).Nodup:=h.sublist ((List.filter_sublist).map _)
theorem i7 (l:List Wt) (p:Pr):(cG l p).length≤l.length:=List.length_filter_le _ _
theorem xo (l:List Wt) (p r:Pr):g4 (cG l p) r=if r=p then none else g4 l r:=by
 by_cases hr:r=p
 ·rw [if_pos hr,dN]
  intro x hx e
  exact (g9.1 hx).2 (e.trans hr)
 ·rw [if_neg hr]
  induction l with
  | nil=>rfl
  | cons x l ih =>
   rw [cA]
   unfold cG at ih ⊢
   rw [List.filter_cons]
   by_cases hx:x.proc=p
   ·rw [decide_eq_true hx,Bool.not_true,if_neg (by simp),ih,decide_eq_false (fun e=>hr (e.symm.trans hx)),cond_false]
   ·rw [decide_eq_false hx,Bool.not_false,if_pos rfl,cA,ih]
def mn (l:List Wt) (w:Wt):Int×List Wt :=
 bif !gX l then (2,[]) else bif !(tt w && decide (w.passed=0)) then (1,[]) else bif decide (0≤eH l w.proc) then (11,[]) else bif decide (l.length=8) then (4,[]) else (0,i6 l w)
def lJ (r:Qu×List Ho):Qu×List Ho×Int:=(r.1,r.2,0)
def bW (e:Int):Qu×List Ho×Int:=(vJ,[],e)
def bG (q:Qu) (p:Pr) (a:Am) (prio:Int):Qu×List Ho×Int :=
 bif !ar q then bW 2 else
 bif !(fI p && decide (0≤prio) && decide (prio≤7)) then bW 1 else
 bif !aH q.res a then bW 12 else
 bif (ap q p).isSome then bW 14 else
 bif bq q.res (aq q.holds p) a then lJ (q,[]) else
 bif !aO (aq q.holds p) then lJ (fL { q with convs:=q.convs++[⟨p,bV q.res (aq q.holds p) a,0,0⟩] }) else
 bif decide (8≤q.holds.length+q.waits.length) then bW 4 else
 bif !decide ((mn q.waits ⟨p,a,prio,0⟩).1=0) then bW (mn q.waits ⟨p,a,prio,0⟩).1 else
 lJ (fL { q with waits:=(mn q.waits ⟨p,a,prio,0⟩).2 })
def bj (q:Qu) (p:Pr):Qu×List Ho×Int :=
 bif !ar q then bW 2 else bif !(ap q p).isSome then bW 10 else lJ (fL { q with convs:=cG q.convs p,waits:=cG q.waits p })
def bL (q:Qu) (p:Pr) (a:Am):Qu×List Ho×Int :=
 bif !ar q then bW 2 else bif aO (aq q.holds p) then bW 10 else bif (ap q p).isSome then bW 14 else bif !bq q.res (aq q.holds p) a then bW 12 else
 bif decide (aq q.holds p=a) then lJ (q,[]) else lJ (fL { q with holds:=cV q.holds p a })
def dT (q:Qu) (p:Pr):Bool:=(ap q p).isSome || !aO (aq q.holds p)
def bd (q:Qu) (p:Pr):Qu×List Ho×Int :=
 bif !ar q then bW 2 else bif !dT q p then bW 10 else lJ (fL { q with holds:=cV q.holds p ⟨0,0⟩,convs:=cG q.convs p,waits:=cG q.waits p })
theorem fx {l m:List Pr} (hn:l.Nodup) (hs:∀x∈l,x∈m):l.length≤m.length:=by
 induction l generalizing m with
 | nil=>exact Nat.zero_le _
 | cons x l ih =>
  rw [List.nodup_cons] at hn
  have hx:=hs x (by simp)
  have h1:=ih (m:=m.erase x) hn.2 fun y hy=>(List.mem_erase_of_ne (fun (e:y=x)=>hn.1 (e▸hy))).2 (hs y (by simp [hy]))
  have h2:=List.length_erase_of_mem hx
  have h3:=List.length_pos_of_mem hx
  rw [List.length_cons]
  omega
theorem Sd.cons {q:Qu} (h:Sd q) {p:Pr} {a:Am} (hh:aq q.holds p≠⟨0,0⟩) (hw:ap q p=none) (hf:aH q.res a=true) (hc:bq q.res (aq q.holds p) a=false) :
  Sd { q with convs:=q.convs++[⟨p,bV q.res (aq q.holds p) a,0,0⟩] }:=by
 have hnone:=dN.1 hw
 obtain ⟨x,hx,hxp,hxa⟩:=ko hh
 have hfh:aH q.res (aq q.holds p)=true:=by rw [←hxa];exact (h.hv.fit x hx).2
 obtain ⟨j1,j2,j3,j4⟩:=AI hfh hf hc
 have hnp:∀y∈q.convs,y.proc≠p:=fun y hy=>hnone y (by simp [hy])
 have hnd:(bU (q.convs++[⟨p,bV q.res (aq q.holds p) a,0,0⟩])).Nodup:=by
  unfold bU
  rw [List.map_append,List.nodup_append]
  refine ⟨h.cnd,by simp,?_⟩
  intro u hu v hv
  obtain ⟨y,hy,rfl⟩:=List.mem_map.1 hu
  simp at hv
  subst hv
  exact hnp y hy
 have hcok:∀y∈q.convs++[⟨p,bV q.res (aq q.holds p) a,0,0⟩],CvOk q.res q.holds y:=by
  intro y hy
  rcases List.mem_append.1 hy with hy|hy
  ·exact h.cok y hy
  ·rw [List.mem_singleton] at hy
   subst hy
   exact ⟨hh,j1,j2,j4,rfl,rfl⟩
 refine ⟨h.res,h.hv,?_,hnd,hcok,h.wlen,h.wnd,h.wok,h.gen⟩
 have hsub:∀u∈bU (q.convs++[⟨p,bV q.res (aq q.holds p) a,0,0⟩]),u∈du q.holds:=by
  intro u hu
  obtain ⟨y,hy,rfl⟩:=List.mem_map.1 hu
  obtain ⟨z,hz,hzp,_⟩:=ko (hcok y hy).held
  exact List.mem_map.2 ⟨z,hz,hzp⟩
 have h1:=fx hnd hsub
 have h2:=h.hv.len
 unfold bU du at h1
 rw [List.length_map,List.length_map] at h1
 exact Nat.le_trans h1 h2
theorem kt {r:Rs} {a:Am} (h:aH r a=true):aZ a=true:=by
 have hs:bb r=true:=by unfold aH at h;rw [Bool.and_eq_true] at h;exact h.1
 unfold aH at h
 unfold aZ
 rcases da hs with ⟨hk,_⟩|⟨hk,h1,h2⟩
 ·rw [if_pos hk] at h
  simp only [Bool.and_eq_true,decide_eq_true_eq] at h
  simp [h.2.1,h.2.2]
 ·rw [if_neg (by omega)] at h
  simp only [Bool.and_eq_true,decide_eq_true_eq] at h
  simp only [Bool.or_eq_true,Bool.and_eq_true,decide_eq_true_eq]
  exact .inr ⟨⟨h.2.1.1,h.2.1.2⟩,by omega⟩
theorem Cc {x:Wt} (h:tt x=true):fI x.proc=true∧aZ x.am=true∧(0≤x.prio∧x.prio≤7)∧(0≤x.passed∧x.passed≤3):=by
 unfold tt at h
 simp only [Bool.and_eq_true,decide_eq_true_eq] at h
 exact ⟨h.1.1.1.1.1,h.1.1.1.1.2,⟨h.1.1.1.2,h.1.1.2⟩,h.1.2,h.2⟩
theorem DU {x:Wt} (h1:fI x.proc=true) (h2:aZ x.am=true) (h3:0≤x.prio∧x.prio≤7) (h4:0≤x.passed∧x.passed≤3):tt x=true:=by
 unfold tt
 simp only [Bool.and_eq_true,decide_eq_true_eq]
 exact ⟨⟨⟨⟨⟨h1,h2⟩,h3.1⟩,h3.2⟩,h4.1⟩,h4.2⟩
theorem Sd.ins {q:Qu} (h:Sd q) {w:Wt} (hh:aq q.holds w.proc=⟨0,0⟩) (hw:ap q w.proc=none) (hf:aH q.res w.am=true) (hv:tt w=true) (hl:q.holds.length+q.waits.length<8) :
  Sd { q with waits:=i6 q.waits w }:=by
 have hnone:=dN.1 hw
 refine ⟨h.res,h.hv,h.clen,h.cnd,h.cok,?_,?_,?_,h.gen⟩
 ·show q.holds.length+(i6 q.waits w).length≤8
  rw [xn]
  omega
 ·refine (zq q.waits w).nodup_iff.2 (List.nodup_cons.2 ⟨?_,h.wnd⟩)
  intro hm
  obtain ⟨y,hy,e⟩:=List.mem_map.1 hm
  exact hnone y (by simp [hy]) e
 ·intro x hx
  rcases rR hx with rfl|hx|⟨y,hy,rfl,h1,h2⟩
  ·exact ⟨hv,hf,hh⟩
  ·exact h.wok x hx
  ·have h3:=h.wok y hy
   obtain ⟨v1,v2,v3,v4⟩:=Cc h3.1
   exact ⟨DU (x:=rQ y) v1 v2 v3 ⟨by show 0≤y.passed+1;omega,by show y.passed+1≤3;omega⟩,h3.2⟩
theorem Sd.drop {q:Qu} (h:Sd q) (p:Pr):Sd { q with convs:=cG q.convs p,waits:=cG q.waits p } :=
 ⟨h.res,h.hv,Nat.le_trans (i7 _ _) h.clen,AL p h.cnd,fun x hx=>h.cok x (g9.1 hx).1,by have h1:=h.wlen;have h2:=i7 q.waits p;show q.holds.length+(cG q.waits p).length≤8;omega,AL p h.wnd,fun x hx=>h.wok x (g9.1 hx).1,h.gen⟩
theorem Sd.lower {q:Qu} (h:Sd q) {p:Pr} {a:Am} (hw:ap q p=none) (h0:aq q.holds p≠⟨0,0⟩) (hc:bq q.res (aq q.holds p) a=true):Sd { q with holds:=cV q.holds p a }:=by
 have hnone:=dN.1 hw
 obtain ⟨h1,h2⟩:=h.hv.lower hc h0
 refine ⟨h.res,h1,h.clen,h.cnd,fun x hx=>(h.cok x hx).set (hnone x (by simp [hx])),?_,h.wnd,?_,h.gen⟩
 ·have:=h.wlen
  show (cV q.holds p a).length+q.waits.length≤8
  omega
 ·intro x hx
  refine ⟨(h.wok x hx).1,(h.wok x hx).2.1,?_⟩
  show aq (cV q.holds p a) x.proc=_
  rw [eL,if_neg (hnone x (by simp [hx]))]
  exact (h.wok x hx).2.2
theorem Cd (l:List Ho) (p:Pr):cV l p ⟨0,0⟩=eT l p:=by unfold cV aO;simp
theorem Sd.gone {q:Qu} (h:Sd q) (p:Pr):Sd { q with holds:=cV q.holds p ⟨0,0⟩,convs:=cG q.convs p,waits:=cG q.waits p }:=by
 have hd:=h.drop p
 rw [Cd]
 have hg:∀r,r≠p→aq (eT q.holds p) r=aq q.holds r:=fun r hr=>by rw [rM,if_neg hr]
 refine ⟨h.res,h.hv.fil p,hd.clen,hd.cnd,?_,?_,hd.wnd,?_,h.gen⟩
 ·intro x hx
  have hx':=g9.1 hx
  have h1:=h.cok x hx'.1
  exact ⟨by rw [hg _ hx'.2];exact h1.held,h1.fit,by rw [hg _ hx'.2];exact h1.cov,by rw [hg _ hx'.2];exact h1.ne,h1.prio,h1.passed⟩
 ·have h1:=nr q.holds p
  have h2:=hd.wlen
  show (eT q.holds p).length+(cG q.waits p).length≤8
  have h3:q.holds.length+(cG q.waits p).length≤8:=h2
  omega
 ·intro x hx
  have hx':=g9.1 hx
  have h1:=h.wok x hx'.1
  exact ⟨h1.1,h1.2.1,by rw [hg _ hx'.2];exact h1.2.2⟩
def Eff (q q':Qu) (p:Pr):Prop:=(aq q'.holds p=aq q.holds p∧ap q' p=ap q p)∨∃a,ap q p=some a∧aq q'.holds p=a∧ap q' p=none
theorem qT {q:Qu} (h:Sd q) (p:Pr):Eff q (fL q).1 p:=by
 have:=AK (gE q) q [] h p
 exact this
theorem pk {q:Qu} {x:Wt} (hx:x∈(fL q).1.waits):x∈q.waits:=uf (gE q) q [] x hx
theorem Eff.of {q r q':Qu} {p:Pr} (h:Eff r q' p) (h1:aq r.holds p=aq q.holds p) (h2:ap r p=ap q p):Eff q q' p:=by
 unfold Eff at *
 rw [h1,h2] at h
 exact h
theorem Eff.refl (q:Qu) (p:Pr):Eff q q p:=.inl ⟨rfl,rfl⟩
structure Out (q q':Qu) (p:Pr):Prop where
 ok:ar q'=true
 res:q'.res=q.res
 eff:∀r,r≠p→Eff q q' r
 prio:∀x∈q'.waits,x.proc≠p→∃y∈q.waits,y.proc=x.proc∧y.prio=x.prio
theorem aG {q:Qu} (h:ar q=true):Sd q:=(db.1 h).1
theorem nR {q r:Qu} {p:Pr} (h:Sd r) (hr:r.res=q.res) (he:∀s,s≠p→aq r.holds s=aq q.holds s∧ap r s=ap q s) (hp:∀x∈r.waits,x.proc≠p→∃y∈q.waits,y.proc=x.proc∧y.prio=x.prio):Out q (fL r).1 p :=
 ⟨(nO h).1,(nO h).2.trans hr,fun s hs=>(qT h s).of (he s hs).1 (he s hs).2,fun x hx hxp=>hp x (pk hx) hxp⟩
theorem Out.same {q:Qu} (p:Pr) (h:ar q=true):Out q q p:=⟨h,rfl,fun r _=>Eff.refl q r,fun x hx _=>⟨x,hx,rfl,rfl⟩⟩
theorem xp {q:Qu} {x:Wt} (s:Pr) (hs:s≠x.proc):ap { q with convs:=q.convs++[x] } s=ap q s:=by
 unfold ap
 dsimp only
 rw [eN,eN,eN]
 have:g4 [x] s=none:=by rw [dN];intro y hy;rw [List.mem_singleton] at hy;subst hy;exact fun e=>hs e.symm
 rw [this]
 cases g4 q.convs s <;> rfl
theorem rT:∀{l m:List Wt} {s:Pr},l.map (fun x=>(x.proc,x.am))=m.map (fun x=>(x.proc,x.am))→g4 l s=g4 m s
 | [],[],_,_=>rfl
 | [],_ :: _,_,h=>by simp at h
 | _ :: _,[],_,h=>by simp at h
 | x :: l,y :: m,s,h=>by
  simp only [List.map_cons,List.cons.injEq,Prod.mk.injEq] at h
  rw [cA,cA,h.1.1,h.1.2,rT h.2]
theorem Ce {l:List Wt} {w:Wt} {s:Pr} (hs:s≠w.proc):g4 (i6 l w) s=g4 l s:=by
 unfold i6
 have e:∀m:List Wt,g4 (m.map rQ) s=g4 m s:=fun m=>rT (by rw [List.map_map];rfl)
 rw [eN,cA,decide_eq_false (fun h=>hs h.symm),cond_false,e]
 conv=>rhs;rw [←List.take_append_drop (kq w l l.length) l]
 rw [eN]
theorem zr {q:Qu} {w:Wt} (s:Pr) (hs:s≠w.proc):ap { q with waits:=i6 q.waits w } s=ap q s:=by
 unfold ap
 dsimp only
 rw [eN,eN,Ce hs]
theorem jx (q:Qu) (p s:Pr):ap { q with convs:=cG q.convs p,waits:=cG q.waits p } s=if s=p then none else ap q s:=by
 unfold ap
 dsimp only
 rw [eN,eN,xo,xo]
 by_cases h:s=p
 ·simp only [if_pos h]
 ·simp only [if_neg h]
theorem qU {q:Qu} (h:Sd q) {p:Pr} {a:Am} {prio:Int} (hw:ap q p=none) (hf:aH q.res a=true) (hp:fI p=true) (h1:0≤prio∧prio≤7) (hl:q.holds.length+q.waits.length<8) :
  mn q.waits ⟨p,a,prio,0⟩=(0,i6 q.waits ⟨p,a,prio,0⟩)∧tt ⟨p,a,prio,0⟩=true:=by
 have hv:tt ⟨p,a,prio,0⟩=true:=DU hp (kt hf) h1 (by simp)
 have hln:gX q.waits=true:=ud.2 ⟨by omega,fun x hx=>(h.wok x hx).1,h.wnd⟩
 have hnone:=dN.1 hw
 have hfd:eH q.waits p<0:=Ca.2 fun x hx=>hnone x (by simp [hx])
 have d1:decide (0≤eH q.waits p)=false:=decide_eq_false (by omega)
 have d2:decide (q.waits.length=8)=false:=decide_eq_false (by omega)
 refine ⟨?_,hv⟩
 unfold mn
 rw [hln,hv]
 simp only [Bool.not_true,Bool.and_self,decide_true,cond_false,d1,d2]
theorem zt {q:Qu} {p:Pr} {a:Am} {prio:Int} (h:(bG q p a prio).2.2=0):Out q (bG q p a prio).1 p:=by
 unfold bG at h ⊢
 cases hS:ar q with
 | false=>rw [hS] at h;simp [bW] at h
 | true =>
  have hd:=aG hS
  rw [hS] at h
  simp only [Bool.not_true,cond_false] at h ⊢
  cases hA:fI p && decide (0≤prio) && decide (prio≤7) with
  | false=>rw [hA] at h;simp [bW] at h
  | true =>
   rw [hA] at h
   simp only [Bool.not_true,cond_false] at h ⊢
   simp only [Bool.and_eq_true,decide_eq_true_eq] at hA
   cases hF:aH q.res a with
   | false=>rw [hF] at h;simp [bW] at h
   | true =>
    rw [hF] at h
    simp only [Bool.not_true,cond_false] at h ⊢
    cases hW:ap q p with
    | some b=>rw [hW] at h;simp [bW] at h
    | none =>
     rw [hW] at h
     simp only [Option.isSome_none,cond_false] at h ⊢
     cases hC:bq q.res (aq q.holds p) a with
     | true=>exact Out.same p hS
     | false =>
      rw [hC] at h
      simp only [cond_false] at h ⊢
      cases hZ:aO (aq q.holds p) with
      | false =>
       simp only [Bool.not_false,cond_true]
       exact nR (hd.cons (bz.1 hZ) hW hF hC) rfl (fun s hs=>⟨rfl,xp s hs⟩) (fun x hx _=>⟨x,hx,rfl,rfl⟩)
      | true =>
       rw [hZ] at h
       simp only [Bool.not_true,cond_false] at h ⊢
       by_cases hl:8≤q.holds.length+q.waits.length
       ·rw [decide_eq_true hl] at h;simp [bW] at h
       ·rw [decide_eq_false hl] at h ⊢
        simp only [cond_false] at h ⊢
        obtain ⟨e1,hv⟩:=qU hd hW hF hA.1.1 ⟨hA.1.2,hA.2⟩ (by omega)
        rw [e1]
        simp only [decide_true,Bool.not_true,cond_false]
        have hz:aq q.holds p=⟨0,0⟩:=of_decide_eq_true hZ
        refine nR (hd.ins hz hW hF hv (by omega)) rfl (fun s hs=>⟨rfl,zr s hs⟩) ?_
        intro x hx hxp
        rcases rR hx with rfl|hx|⟨y,hy,rfl,_,_⟩
        ·exact absurd rfl hxp
        ·exact ⟨x,hx,rfl,rfl⟩
        ·exact ⟨y,hy,rfl,rfl⟩
theorem xq {q:Qu} {p:Pr} (h:(bj q p).2.2=0):Out q (bj q p).1 p:=by
 unfold bj at h ⊢
 cases hS:ar q with
 | false=>rw [hS] at h;simp [bW] at h
 | true =>
  have hd:=aG hS
  rw [hS] at h
  simp only [Bool.not_true,cond_false] at h ⊢
  cases hW:(ap q p).isSome with
  | false=>rw [hW] at h;simp [bW] at h
  | true =>
   simp only [Bool.not_true,cond_false]
   exact nR (hd.drop p) rfl (fun s hs=>⟨rfl,by rw [jx,if_neg hs]⟩) (fun x hx _=>⟨x,(g9.1 hx).1,rfl,rfl⟩)
theorem zu {q:Qu} {p:Pr} {a:Am} (h:(bL q p a).2.2=0):Out q (bL q p a).1 p:=by
 unfold bL at h ⊢
 cases hS:ar q with
 | false=>rw [hS] at h;simp [bW] at h
 | true =>
  have hd:=aG hS
  rw [hS] at h
  simp only [Bool.not_true,cond_false] at h ⊢
  cases hZ:aO (aq q.holds p) with
  | true=>rw [hZ] at h;simp [bW] at h
  | false =>
   rw [hZ] at h
   simp only [cond_false] at h ⊢
   cases hW:ap q p with
   | some b=>rw [hW] at h;simp [bW] at h
   | none =>
    rw [hW] at h
    simp only [Option.isSome_none,cond_false] at h ⊢
    cases hC:bq q.res (aq q.holds p) a with
    | false=>rw [hC] at h;simp [bW] at h
    | true =>
     simp only [Bool.not_true,cond_false]
     cases hE:decide (aq q.holds p=a) with
     | true=>exact Out.same p hS
     | false =>
      simp only [cond_false]
      exact nR (hd.lower hW (bz.1 hZ) hC) rfl (fun s hs=>⟨by show aq (cV q.holds p a) s=_;rw [eL,if_neg hs],rfl⟩) (fun x hx _=>⟨x,hx,rfl,rfl⟩)
theorem xr {q:Qu} {p:Pr} (h:(bd q p).2.2=0):Out q (bd q p).1 p:=by
 unfold bd at h ⊢
 cases hS:ar q with
 | false=>rw [hS] at h;simp [bW] at h
 | true =>
  have hd:=aG hS
  rw [hS] at h
  simp only [Bool.not_true,cond_false] at h ⊢
  cases hH:dT q p with
  | false=>rw [hH] at h;simp [bW] at h
  | true =>
   simp only [Bool.not_true,cond_false]
   refine nR (hd.gone p) rfl (fun s hs=>⟨by show aq (cV q.holds p ⟨0,0⟩) s=_;rw [eL,if_neg hs],?_⟩) (fun x hx _=>⟨x,(g9.1 hx).1,rfl,rfl⟩)
   have:=jx q p s
   rw [if_neg hs] at this
   exact this
theorem ku {l:List Ho} (ha:(du l).Pairwise fY) {x:Ho} (hx:x∈l):aq l x.proc=x.am:=by
 induction l with
 | nil=>cases hx
 | cons y l ih =>
  have ha':(y.proc :: du l).Pairwise fY:=ha
  obtain ⟨h1,h2⟩:=List.pairwise_cons.1 ha'
  show (bif decide (y.proc=x.proc) then y.am else aq l x.proc)=x.am
  rcases List.mem_cons.1 hx with rfl|hx
  ·rw [decide_eq_true rfl];rfl
  ·have h3:=h1 x.proc (List.mem_map.2 ⟨x,hx,rfl⟩)
   rw [decide_eq_false (fun (e:y.proc=x.proc)=>bE _ (e▸h3)),cond_false]
   exact ih h2 hx
theorem dX {q:Qu} (h:Sd q) (r:Pr):r∈eu q↔dT q r=true:=by
 unfold eu dT
 rw [bw,List.mem_append,Bool.or_eq_true,Bool.not_eq_true',bz]
 constructor
 ·rintro (h1|h1)
  ·obtain ⟨x,hx,rfl⟩:=List.mem_map.1 h1
   right
   rw [ku h.hv.asc hx]
   exact bz.1 (dR (h.hv.fit x hx).2)
  ·left
   have h2:r∈bU (q.convs++q.waits):=h1
   obtain ⟨x,hx,rfl⟩:=List.mem_map.1 h2
   unfold ap
   rw [rS h.nd hx]
   rfl
 ·rintro (h1|h1)
  ·right
   obtain ⟨a,ha⟩:=Option.isSome_iff_exists.1 h1
   obtain ⟨x,hx,hp,_⟩:=Cb ha
   show r∈bU (q.convs++q.waits)
   exact List.mem_map.2 ⟨x,hx,hp⟩
  ·left
   obtain ⟨x,hx,hp,_⟩:=ko h1
   exact List.mem_map.2 ⟨x,hx,hp⟩
theorem gi:∀{l:List Qu} {r:Pr},r∈iW l↔∃q∈l,r∈eu q
 | [],r=>by simp [iW]
 | q :: l,r=>by
  show r∈eu q++iW l↔_
  rw [List.mem_append,gi]
  simp
theorem Eff.has {q q':Qu} {p:Pr} (h:Eff q q' p) (hq:dT q' p=true):dT q p=true:=by
 unfold dT at *
 rcases h with ⟨h1,h2⟩|⟨a,h1,_,_⟩
 ·rw [h1,h2] at hq
  exact hq
 ·rw [h1]
  rfl
def ez (t:List Qu):Bool:=dO t && decide ((az t).length≤8)
def gj (t:List Qu):List ByteArray:=t.map (·.res.name)
theorem rU:∀{l:List Qu} {p:Option ByteArray},nv p l=true→∀q∈l,ar q=true
 | [],_,_,q,hq=>absurd hq (by simp)
 | x :: l,p,h,q,hq=>by
  rw [dw] at h
  simp only [Bool.and_eq_true] at h
  rcases List.mem_cons.1 hq with rfl|hq
  ·exact h.1.1
  ·exact rU h.2 q hq
theorem xt {q':Qu} (hs:ar q'=true):∀{l:List Qu} {p:Option ByteArray} {i:Nat} (h:i<l.length),nv p l=true→q'.res.name=l[i].res.name→nv p (l.set i q')=true
 | [],_,_,h,_,_=>absurd h (by simp)
 | x :: l,p,0,h,hv,hn=>by
  rw [dw] at hv
  simp only [Bool.and_eq_true] at hv
  have hn':q'.res.name=x.res.name:=hn
  rw [List.set_cons_zero,dw,hn']
  simp only [Bool.and_eq_true]
  exact ⟨⟨hs,hv.1.2⟩,hv.2⟩
 | x :: l,p,i+1,h,hv,hn=>by
  rw [dw] at hv
  simp only [Bool.and_eq_true] at hv
  rw [List.set_cons_succ,dw]
  simp only [Bool.and_eq_true]
  exact ⟨hv.1,xt hs (by simpa using h) hv.2 (by simpa using hn)⟩
def fy (a b:ByteArray):Bool:=Op.bytesLess a.toList b.toList
theorem d9 {a b c:ByteArray} (h1:fy a b=true) (h2:fy b c=true):fy a c=true:=by
 unfold fy at *
 rw [bytesLess_eq,decide_eq_true_eq] at *
 exact List.lt_trans h1 h2
theorem dj (a:ByteArray):fy a a=false:=by
 unfold fy
 rw [bytesLess_eq,decide_eq_false_iff_not]
 exact List.lt_irrefl _
theorem nS:∀{l:List Qu} {p:Option ByteArray},nv p l=true→(gj l).Pairwise (fun a b=>fy a b=true)∧∀m,p=some m→∀n∈gj l,fy m n=true
 | [],_,_=>⟨by simp [gj],fun _ _ n hn=>absurd hn (by simp [gj])⟩
 | x :: l,p,h=>by
  rw [dw] at h
  simp only [Bool.and_eq_true] at h
  obtain ⟨h1,h2⟩:=nS h.2
  refine ⟨List.pairwise_cons.2 ⟨fun n hn=>h2 _ rfl n hn,h1⟩,?_⟩
  intro m hm n hn
  subst hm
  have h3:fy m x.res.name=true:=h.1.2
  rcases List.mem_cons.1 (show n∈x.res.name :: gj l from hn) with rfl|hn
  ·exact h3
  ·exact d9 h3 (h2 _ rfl n hn)
theorem cm {t:List Qu} (h:ez t=true):t.length≤8∧nv none t=true∧(az t).length≤8:=by
 unfold ez dO at h
 simp only [Bool.and_eq_true,decide_eq_true_eq] at h
 exact ⟨h.1.1,h.1.2,h.2⟩
theorem xu {t:List Qu} (h:ez t=true):(gj t).Nodup:=by
 have:=(nS (cm h).2.1).1
 exact this.imp fun {a b} hab e=>by rw [e,dj] at hab;cases hab
theorem dJ {t:List Qu} (h:ez t=true) {q:Qu} (hq:q∈t):ar q=true:=rU (cm h).2.1 q hq
theorem rV {a b:ByteArray}:(a.toList == b.toList)=true↔a=b:=by
 rw [beq_iff_eq]
 exact ⟨toList_inj,fun h=>by rw [h]⟩
theorem xv:∀{t:List Qu} {i k:Nat} (h:i<t.length),(gj t).Nodup→bK t[i].res.name k t=((k+i:Nat):Int)
 | [],_,_,h,_=>absurd h (by simp)
 | q :: t,0,k,h,_=>by
  rw [eU]
  have:(q.res.name.toList == ((q :: t)[0]).res.name.toList)=true:=by simp
  rw [this]
  simp
 | q :: t,i+1,k,h,hn=>by
  have hn':(q.res.name :: gj t).Nodup:=hn
  rw [List.nodup_cons] at hn'
  rw [eU]
  have hi:i<t.length:=by simpa using h
  have hne:(q.res.name.toList == ((q :: t)[i+1]).res.name.toList)=false:=by
   cases hc:(q.res.name.toList == ((q :: t)[i+1]).res.name.toList) with
   | false=>rfl
   | true =>
    have e:=rV.1 hc
    exact absurd (e▸List.mem_map.2 ⟨t[i],List.getElem_mem hi,rfl⟩) hn'.1
  rw [hne,cond_false]
  have:=xv (k:=k+1) hi hn'.2
  simp only [List.getElem_cons_succ]
  rw [this]
  omega
theorem mK:∀{t:List Qu} {n:ByteArray} {k:Nat},0≤bK n k t→∃i,∃h:i<t.length,bK n k t=((k+i:Nat):Int)∧t[i].res.name=n
 | [],n,k,h=>by simp [bK] at h
 | q :: t,n,k,h=>by
  rw [eU] at h ⊢
  cases hc:(q.res.name.toList == n.toList) with
  | true=>exact ⟨0,by simp,by simp,rV.1 hc⟩
  | false =>
   rw [hc,cond_false] at h
   rw [cond_false]
   obtain ⟨i,hi,h1,h2⟩:=mK h
   exact ⟨i+1,by simpa using hi,by rw [h1];omega,by simpa using h2⟩
structure TOut (t t':List Qu) (i:Nat) (p:Pr):Prop where
 lt:i<t.length
 set:∃q,t'=t.set i q∧Out t[i] q p
theorem TOut.len {t t':List Qu} {i:Nat} {p:Pr} (h:TOut t t' i p):t'.length=t.length:=by obtain ⟨q,rfl,_⟩:=h.set;simp
theorem TOut.at {t t':List Qu} {i:Nat} {p:Pr} (h:TOut t t' i p):∃q,t'[i]? = some q∧Out (t[i]'h.lt) q p:=by
 obtain ⟨q,rfl,ho⟩:=h.set
 exact ⟨q,by rw [List.getElem?_set_self h.lt],ho⟩
theorem TOut.other {t t':List Qu} {i:Nat} {p:Pr} (h:TOut t t' i p) {j:Nat} (hj:j≠i):t'[j]? = t[j]?:=by
 obtain ⟨q,rfl,_⟩:=h.set
 rw [List.getElem?_set_ne (Ne.symm hj)]
theorem TOut.names {t t':List Qu} {i:Nat} {p:Pr} (h:TOut t t' i p):gj t'=gj t:=by
 obtain ⟨q,rfl,ho⟩:=h.set
 unfold gj
 rw [List.map_set]
 have e:q.res.name=(t[i]'h.lt).res.name:=by rw [ho.res]
 rw [e]
 apply List.ext_getElem
 ·simp
 ·intro j h1 h2
  rw [List.getElem_set]
  split
  ·next hij=>subst hij;simp
  ·rfl
theorem ug {t t':List Qu} {i:Nat} {p:Pr} (hv:ez t=true) (h:TOut t t' i p):∀r∈az t',r=p∨r∈az t:=by
 obtain ⟨q,rfl,ho⟩:=h.set
 intro r hr
 unfold az at hr ⊢
 rw [bw,gi] at hr ⊢
 obtain ⟨x,hx,hrx⟩:=hr
 rcases List.mem_or_eq_of_mem_set hx with hx|rfl
 ·exact .inr ⟨x,hx,hrx⟩
 ·by_cases hrp:r=p
  ·exact .inl hrp
  ·right
   have h1:=(dX (aG ho.ok) r).1 hrx
   have hm:t[i]'h.lt∈t:=List.getElem_mem h.lt
   exact ⟨_,hm,(dX (aG (dJ hv hm)) r).2 ((ho.eff r hrp).has h1)⟩
theorem ec (t:List Qu):(az t).Nodup:=by
 unfold List.Nodup az
 exact (gN (iW t)).imp fun {a b} (hab:fY a b) (e:a=b)=>by rw [e] at hab;exact bE b hab
theorem TOut.valid {t t':List Qu} {i:Nat} {p:Pr} (hv:ez t=true) (h:TOut t t' i p) (hp:(az t).length≤7∨p∈az t∨p ∉ az t'):ez t'=true:=by
 have hsub:=ug hv h
 obtain ⟨q,rfl,ho⟩:=h.set
 obtain ⟨h1,h2,h3⟩:=cm hv
 unfold ez dO
 simp only [Bool.and_eq_true,decide_eq_true_eq]
 refine ⟨⟨by simpa using h1,xt ho.ok h.lt h2 (by rw [ho.res])⟩,?_⟩
 rcases hp with hp|hp|hp
 ·have h4:=fx (m:=p :: az t) (ec (t.set i q)) fun r hr=>by
   rcases hsub r hr with e|e
   ·simp [e]
   ·simp [e]
  rw [List.length_cons] at h4
  omega
 ·have h4:=fx (m:=az t) (ec (t.set i q)) fun r hr=>by
   rcases hsub r hr with e|e
   ·rw [e];exact hp
   ·exact e
  omega
 ·have h4:=fx (m:=az t) (ec (t.set i q)) fun r hr=>by
   rcases hsub r hr with e|e
   ·exact absurd (e▸hr) hp
   ·exact e
  omega
end Go.Proofs.YtdaajdflefnjfaaGreat
