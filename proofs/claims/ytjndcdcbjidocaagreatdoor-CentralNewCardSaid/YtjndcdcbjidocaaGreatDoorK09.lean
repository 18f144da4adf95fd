/- Part 9 of 35 of the proof of centralNew_holds (no condition). -/
import Derived.Test.YtjndcdcbjidocaaGreatDoorK08
set_option linter.unusedVariables false
set_option linter.unusedSimpArgs false
set_option maxRecDepth 100000
set_option maxHeartbeats 64000000
namespace Go.Proofs.YtjndcdcbjidocaaGreatDoor
open Go.RowKit
theorem jI {p:Pr}:∀{l:List Wt} {k:Nat},(∀x∈l,x.proc≠p)→f4 p k l = -1
 | [],_,_=>rfl
 | x :: l,k,h=>by
  rw [dQ,decide_eq_false (h x (by simp)),cond_false]
  exact jI fun y hy=>h y (by simp [hy])
theorem oc {p:Pr}:∀{l:List Wt} {k:Nat},(∃x∈l,x.proc=p)→(k:Int)≤f4 p k l∧f4 p k l<(k:Int)+l.length
 | [],_,h=>by obtain ⟨_,h,_⟩:=h;cases h
 | x :: l,k,h=>by
  rw [dQ]
  by_cases hx:x.proc=p
  ·rw [decide_eq_true hx,cond_true,List.length_cons]
   omega
  ·rw [decide_eq_false hx,cond_false,List.length_cons]
   have h2:∃y∈l,y.proc=p:=by
    obtain ⟨y,hy,e⟩:=h
    rcases List.mem_cons.1 hy with rfl|hy
    ·exact absurd e hx
    ·exact ⟨y,hy,e⟩
   have:=oc (k:=k+1) h2
   omega
theorem Au {l:List Wt} {p:Pr}:dh l p<0↔∀x∈l,x.proc≠p:=by
 constructor
 ·intro h x hx e
  have:=(oc (k:=0) ⟨x,hx,e⟩).1
  unfold dh at h
  omega
 ·intro h
  unfold dh
  rw [jI h]
  omega
theorem pR:∀(l:List Wt) (k:Nat) (all:List Wt) (pre:List Wt),all=pre++l→k=pre.length→(bN pre).Nodup→((∀j (h:j<l.length),dh all l[j].proc=((k+j:Nat):Int))↔(bN all).Nodup)
 | [],k,all,pre,hall,_,hp=>by
  subst hall
  simpa using hp
 | x :: l,k,all,pre,hall,hk,hp=>by
  have hx:dh all x.proc=(k:Int)↔∀y∈pre,y.proc≠x.proc:=by
   have gen:∀(pre:List Wt) (k0:Nat),f4 x.proc k0 (pre++x :: l)=((k0+pre.length:Nat):Int)↔∀y∈pre,y.proc≠x.proc:=by
    intro pre
    induction pre with
    | nil=>intro k0;simp [dQ]
    | cons y pre ih =>
     intro k0
     rw [List.cons_append,dQ,List.length_cons]
     by_cases hy:y.proc=x.proc
     ·rw [decide_eq_true hy,cond_true]
      constructor
      ·intro h;omega
      ·intro h;exact absurd hy (h y (by simp))
     ·rw [decide_eq_false hy,cond_false]
      have h1:=ih (k0+1)
      have e1:((k0+(pre.length+1):Nat):Int)=((k0+1+pre.length:Nat):Int):=by omega
      rw [e1,h1]
      constructor
      ·intro h z hz
       rcases List.mem_cons.1 hz with rfl|hz
       ·exact hy
       ·exact h z hz
      ·intro h z hz;exact h z (by simp [hz])
   rw [hall,hk]
   have:=gen pre 0
   rwa [Nat.zero_add] at this
  have ih:=fun hp2=>pR l (k+1) all (pre++[x]) (by rw [hall];simp) (by simp [hk]) hp2
  have hpx:(bN (pre++[x])).Nodup↔∀y∈pre,y.proc≠x.proc:=by
   unfold bN at hp ⊢
   rw [List.map_append,List.nodup_append]
   constructor
   ·rintro ⟨_,_,h⟩ y hy
    exact h y.proc (List.mem_map.2 ⟨y,hy,rfl⟩) x.proc (by simp)
   ·intro h
    refine ⟨hp,by simp,?_⟩
    intro a ha b hb
    obtain ⟨y,hy,rfl⟩:=List.mem_map.1 ha
    simp at hb
    subst hb
    exact h y hy
  constructor
  ·intro h
   have h0:dh all x.proc=(k:Int):=by have:=h 0 (by simp);simpa using this
   refine (ih (hpx.2 (hx.1 h0))).1 fun j hj=>?_
   have:=h (j+1) (by simp;omega)
   simp only [List.getElem_cons_succ] at this
   rw [this]
   omega
  ·intro h j hj
   have h1:(bN (pre++[x])).Nodup:=by
    have e:bN all=bN (pre++[x])++bN l:=by rw [hall];simp [bN]
    rw [e] at h
    exact (List.nodup_append.1 h).1
   cases j with
   | zero=>simpa using hx.2 (hpx.1 h1)
   | succ j =>
    have:=(ih h1).2 h j (by simp at hj;omega)
    simp only [List.getElem_cons_succ]
    rw [this]
    omega
theorem od (l:List Wt):(∀j (h:j<l.length),dh l l[j].proc=((j:Nat):Int))↔(bN l).Nodup:=by
 have:=pR l 0 l [] rfl rfl (by simp [bN])
 simpa using this
theorem vJ (all:List Wt):∀(l:List Wt) (k:Nat),tm all k l=true↔(∀x∈l,pe x=true)∧∀j (h:j<l.length),dh all l[j].proc=((k+j:Nat):Int)
 | [],k=>by simp [tm]
 | x :: l,k=>by
  rw [j6]
  simp only [Bool.and_eq_true,decide_eq_true_eq,vJ all l]
  constructor
  ·rintro ⟨⟨h1,h2⟩,h3,h4⟩
   refine ⟨?_,?_⟩
   ·intro y hy
    rcases List.mem_cons.1 hy with rfl|hy
    ·exact h1
    ·exact h3 y hy
   ·intro j hj
    cases j with
    | zero=>simpa using h2
    | succ j =>
     have:=h4 j (by simp at hj;omega)
     simp only [List.getElem_cons_succ]
     rw [this]
     omega
  ·rintro ⟨h1,h2⟩
   refine ⟨⟨h1 x (by simp),by have:=h2 0 (by simp);simpa using this⟩,fun y hy=>h1 y (by simp [hy]),fun j hj=>?_⟩
   have:=h2 (j+1) (by simp;omega)
   simp only [List.getElem_cons_succ] at this
   rw [this]
   omega
theorem so {l:List Wt}:eh l=true↔l.length≤8∧(∀x∈l,pe x=true)∧(bN l).Nodup:=by
 unfold eh
 simp only [Bool.and_eq_true,decide_eq_true_eq,vJ,Nat.zero_add,od]
structure CvOk (r:Rs) (hs:List Ho) (x:Wt):Prop where
 held:aq hs x.proc≠⟨0,0⟩
 fit:aD r x.am=true
 cov:bb r x.am (aq hs x.proc)=true
 ne:x.am≠aq hs x.proc
 prio:x.prio=0
 passed:x.passed=0
theorem bo {a:Am}:aG a=false↔a≠⟨0,0⟩:=by unfold aG;simp
theorem vK (q:Qu):∀(l:List Wt) (k:Nat),tn q k l=true↔(∀x∈l,CvOk q.res q.holds x)∧∀j (h:j<l.length),dh q.convs l[j].proc=((k+j:Nat):Int)
 | [],k=>by simp [tn]
 | x :: l,k=>by
  rw [m9,Bool.and_eq_true,vK q l]
  have h0:zS q k x=true↔CvOk q.res q.holds x∧dh q.convs x.proc=(k:Int):=by
   unfold zS
   simp only [Bool.and_eq_true,decide_eq_true_eq,Bool.not_eq_true',bo,decide_eq_false_iff_not]
   constructor
   ·rintro ⟨⟨⟨⟨⟨⟨h1,h2⟩,h3⟩,h4⟩,h5⟩,h6⟩,h7⟩
    exact ⟨⟨h2,h3,h4,h5,h6,h7⟩,h1⟩
   ·rintro ⟨⟨h2,h3,h4,h5,h6,h7⟩,h1⟩
    exact ⟨⟨⟨⟨⟨⟨h1,h2⟩,h3⟩,h4⟩,h5⟩,h6⟩,h7⟩
  rw [h0]
  constructor
  ·rintro ⟨⟨h1,h2⟩,h3,h4⟩
   refine ⟨?_,?_⟩
   ·intro y hy
    rcases List.mem_cons.1 hy with rfl|hy
    ·exact h1
    ·exact h3 y hy
   ·intro j hj
    cases j with
    | zero=>simpa using h2
    | succ j =>
     have:=h4 j (by simp at hj;omega)
     simp only [List.getElem_cons_succ]
     rw [this]
     omega
  ·rintro ⟨h1,h2⟩
   refine ⟨⟨h1 x (by simp),by have:=h2 0 (by simp);simpa using this⟩,fun y hy=>h1 y (by simp [hy]),fun j hj=>?_⟩
   have:=h2 (j+1) (by simp;omega)
   simp only [List.getElem_cons_succ] at this
   rw [this]
   omega
theorem vL (q:Qu):∀l:List Wt,re q l=true↔∀x∈l,aD q.res x.am=true∧aq q.holds x.proc=⟨0,0⟩
 | []=>by simp [re]
 | x :: l=>by
  rw [na]
  simp only [Bool.and_eq_true,vL q l]
  have hz:aG (aq q.holds x.proc)=true↔aq q.holds x.proc=⟨0,0⟩:=by unfold aG;simp
  rw [hz]
  constructor
  ·rintro ⟨⟨h1,h2⟩,h3⟩ y hy
   rcases List.mem_cons.1 hy with rfl|hy
   ·exact ⟨h1,h2⟩
   ·exact h3 y hy
  ·intro h
   exact ⟨h x (by simp),fun y hy=>h y (by simp [hy])⟩
structure Sd (q:Qu):Prop where
 res:jr q.res=true
 hv:Hv q.res q.holds
 clen:q.convs.length≤8
 cnd:(bN q.convs).Nodup
 cok:∀x∈q.convs,CvOk q.res q.holds x
 wlen:q.holds.length+q.waits.length≤8
 wnd:(bN q.waits).Nodup
 wok:∀x∈q.waits,pe x=true∧aD q.res x.am=true∧aq q.holds x.proc=⟨0,0⟩
 gen:0≤q.gen∧q.gen≤1073741824
theorem pS {q:Qu}:g6 q=true↔Sd q:=by
 unfold g6 Il Im
 simp only [Bool.and_eq_true,decide_eq_true_eq,yJ,vK,vL,so,Nat.zero_add,od]
 constructor
 ·rintro ⟨⟨⟨⟨⟨h1,h2⟩,h3,h4,h5⟩,⟨⟨h6,h7,h8⟩,h9⟩,h10⟩,h11⟩,h12⟩
  exact ⟨h1,h2,h3,h5,h4,h9,h8,fun x hx=>⟨h7 x hx,h10 x hx⟩,h11,h12⟩
 ·rintro ⟨h1,h2,h3,h5,h4,h9,h8,h7,h11,h12⟩
  exact ⟨⟨⟨⟨⟨h1,h2⟩,h3,h4,h5⟩,⟨⟨by omega,fun x hx=>(h7 x hx).1,h8⟩,h9⟩,fun x hx=>(h7 x hx).2⟩,h11⟩,h12⟩
theorem Sd.noboth {q:Qu} (h:Sd q) {x y:Wt} (hx:x∈q.convs) (hy:y∈q.waits):x.proc≠y.proc:=fun e=>by
 have h1:=(h.cok x hx).held
 rw [e,(h.wok y hy).2.2] at h1
 exact h1 rfl
def gF (q:Qu) (x:Wt):Qu:=match q.convs with
 | _ :: l=>{ q with convs:=l,holds:=b9 q.holds x.proc x.am }
 | []=>{ q with waits:=q.waits.tail,holds:=b9 q.holds x.proc x.am }
theorem tQ {l:List Ho} {p:Pr} {a:Am} (ha:(cw l).Pairwise fq) (h0:aq l p≠⟨0,0⟩):(b9 l p a).length≤l.length:=by
 obtain ⟨x,hx,hp,_⟩:=jH h0
 subst hp
 have hs:=(nr ha hx).length_eq
 rw [List.length_cons] at hs
 unfold b9
 cases aG a with
 | true=>rw [cond_true];omega
 | false=>rw [cond_false,md];omega
theorem EO {r:Rs} {l:List Ho} {p:Pr} {a:Am} (h:fv r l p a=true):Hv r (b9 l p a):=by
 unfold fv at h
 rw [Bool.and_eq_true] at h
 exact yJ.1 h.2
theorem CvOk.set {r:Rs} {hs:List Ho} {x:Wt} {p:Pr} {a:Am} (h:CvOk r hs x) (hp:x.proc≠p):CvOk r (b9 hs p a) x:=by
 have e:aq (b9 hs p a) x.proc=aq hs x.proc:=by rw [eE,if_neg hp]
 exact ⟨by rw [e];exact h.held,h.fit,by rw [e];exact h.cov,by rw [e];exact h.ne,h.prio,h.passed⟩
theorem Sd.pop {q:Qu} (h:Sd q) {x:Wt} (hx:di q=some x) (hr:fv q.res q.holds x.proc x.am=true):Sd (gF q x):=by
 obtain ⟨res,hs,cs,ws,gen⟩:=q
 unfold di at hx
 unfold gF
 have hv:=EO hr
 cases cs with
 | cons c l =>
  injection hx with hx
  subst hx
  have hn:(c.proc :: bN l).Nodup:=h.cnd
  rw [List.nodup_cons] at hn
  refine ⟨h.res,hv,by have:=h.clen;simp at this;show l.length≤8;omega,hn.2,?_,?_,h.wnd,?_,h.gen⟩
  ·intro y hy
   exact (h.cok y (by simp [hy])).set fun e=>hn.1 (e▸List.mem_map.2 ⟨y,hy,rfl⟩)
  ·have h1:=tQ (a:=c.am) h.hv.asc (h.cok c (by simp)).held
   have h2:=h.wlen
   show (b9 hs c.proc c.am).length+ws.length≤8
   simp only at h1 h2
   omega
  ·intro y hy
   refine ⟨(h.wok y hy).1,(h.wok y hy).2.1,?_⟩
   show aq (b9 hs c.proc c.am) y.proc=_
   rw [eE,if_neg (fun e=>h.noboth (x:=c) (by simp) hy e.symm)]
   exact (h.wok y hy).2.2
 | nil =>
  cases ws with
  | nil=>cases hx
  | cons c l =>
   have hx':some c=some x:=hx
   injection hx' with hx'
   subst hx'
   have hn:(c.proc :: bN l).Nodup:=h.wnd
   rw [List.nodup_cons] at hn
   refine ⟨h.res,hv,by simp,by simp [bN],fun y hy=>absurd hy (by simp),?_,hn.2,?_,h.gen⟩
   ·have h1:=Bx hs c.proc c.am
    have h2:=h.wlen
    show (b9 hs c.proc c.am).length+l.length≤8
    simp only [List.length_cons] at h2
    omega
   ·intro y hy
    have hy':y∈l:=hy
    refine ⟨(h.wok y (by simp [hy'])).1,(h.wok y (by simp [hy'])).2.1,?_⟩
    show aq (b9 hs c.proc c.am) y.proc=_
    rw [eE,if_neg (show ¬y.proc=c.proc from fun e=>hn.1 (e▸List.mem_map.2 ⟨y,hy',rfl⟩))]
    exact (h.wok y (by simp [hy'])).2.2
def eF:Nat→Qu→List Ho→Qu×List Ho
 | 0,q,acc=>(q,acc)
 | n+1,q,acc=>match di q with
  | none=>(q,acc)
  | some x=>bif fv q.res q.holds x.proc x.am then eF n (gF q x) (acc++[⟨x.proc,x.am⟩]) else (q,acc)
def ge (q:Qu):Nat:=q.convs.length+q.waits.length
def mq (q:Qu):Qu×List Ho:=eF (ge q) q []
theorem xA {q:Qu} {x:Wt} (hx:di q=some x):ge (gF q x)+1=ge q:=by
 obtain ⟨res,hs,cs,ws,gen⟩:=q
 unfold di at hx
 unfold gF ge
 cases cs with
 | cons c l=>simp;omega
 | nil =>
  cases ws with
  | nil=>cases hx
  | cons c l=>simp
theorem cG {q:Qu}:ax q=true↔Sd q∧∀x,di q=some x→fv q.res q.holds x.proc x.am=false:=by
 unfold ax
 rw [Bool.and_eq_true,pS]
 cases di q with
 | none=>simp
 | some x=>simp
theorem Cb (q:Qu) (x:Wt):(gF q x).gen=q.gen∧(gF q x).res=q.res:=by
 unfold gF
 cases q.convs <;> exact ⟨rfl,rfl⟩
theorem lq:∀(n:Nat) (q:Qu) (acc:List Ho),Sd q→ge q≤n→ax (eF n q acc).1=true∧(eF n q acc).1.gen=q.gen∧(eF n q acc).1.res=q.res
 | 0,q,acc,h,hn=>by
  refine ⟨cG.2 ⟨h,fun x hx=>?_⟩,rfl,rfl⟩
  have:=xA (show di q=some x from hx)
  omega
 | n+1,q,acc,h,hn=>by
  unfold eF
  cases hx:di q with
  | none=>exact ⟨cG.2 ⟨h,fun x hx2=>by rw [hx] at hx2;cases hx2⟩,rfl,rfl⟩
  | some x =>
   dsimp only
   cases hr:fv q.res q.holds x.proc x.am with
   | false =>
    rw [cond_false]
    refine ⟨cG.2 ⟨h,fun y hy=>?_⟩,rfl,rfl⟩
    rw [hx] at hy
    injection hy with hy
    subst hy
    exact hr
   | true =>
    rw [cond_true]
    have h1:=xA hx
    have h2:=lq n (gF q x) (acc++[⟨x.proc,x.am⟩]) (h.pop hx hr) (by omega)
    have h3:=Cb q x
    exact ⟨h2.1,h2.2.1.trans h3.1,h2.2.2.trans h3.2⟩
theorem dz {q:Qu} (h:Sd q):ax (mq q).1=true∧(mq q).1.gen=q.gen∧(mq q).1.res=q.res:=lq _ q [] h (Nat.le_refl _)
def dE (q:Qu):Qu×List Ho:=({ (mq q).1 with gen:=aQ q.gen },(mq q).2)
theorem mr {n:Int}:1≤aQ n∧aQ n≤1073741824:=by unfold aQ;split <;> omega
theorem Sd.regen {q:Qu} (h:Sd q) {g:Int} (hg:0≤g∧g≤1073741824):Sd { q with gen:=g }:=⟨h.res,h.hv,h.clen,h.cnd,h.cok,h.wlen,h.wnd,h.wok,hg⟩
theorem mt {q:Qu} (h:Sd q):ax (dE q).1=true∧(dE q).1.res=q.res:=by
 have h1:=dz h
 obtain ⟨h2,h3⟩:=cG.1 h1.1
 refine ⟨cG.2 ⟨h2.regen (by have:=mr (n:=q.gen);omega),fun x hx=>h3 x hx⟩,h1.2.2⟩
def lO (a b:Int):Int:=bif cZ 1 a && cZ 1 b then 1 else bif cZ 2 a && cZ 2 b then 2 else bif cZ 3 a && cZ 3 b then 3 else bif cZ 4 a && cZ 4 b then 4 else bif cZ 5 a && cZ 5 b then 5 else 0
def bB (r:Rs) (a b:Am):Am:=bif be r a && be r b then (bif bb r a b then a else bif bb r b a then b else ⟨lO a.mode b.mode,0⟩) else ⟨0,0⟩
theorem GX {h a:Int} (h1:bQ h=true) (h2:bQ a=true) (hc:cZ h a=false) :
  bQ (bif cZ a h then a else lO h a)=true∧cZ (bif cZ a h then a else lO h a) h=true∧cZ (bif cZ a h then a else lO h a) a=true∧(bif cZ a h then a else lO h a)≠h:=by
 unfold bQ at h1 h2
 simp only [Bool.and_eq_true,decide_eq_true_eq] at h1 h2
 have e1:h=1∨h=2∨h=3∨h=4∨h=5:=by omega
 have e2:a=1∨a=2∨a=3∨a=4∨a=5:=by omega
 rcases e1 with rfl|rfl|rfl|rfl|rfl <;> rcases e2 with rfl|rfl|rfl|rfl|rfl <;> first|(exact absurd hc (by decide))|decide
theorem cJ {r:Rs} {a:Am} (h:aD r a=true):be r a=true:=by
 have h2:=h
 unfold aD at h2
 unfold be
 rw [Bool.and_eq_true] at h2 ⊢
 exact ⟨h2.1,by rw [h,Bool.or_true]⟩
theorem dM {r:Rs} {a:Am} (h:aD r a=true):aG a=false:=by
 rw [bo]
 rintro rfl
 unfold aD bQ at h
 simp at h
theorem pT {r:Rs} {a:Am} (h:aD r a=true):bb r a a=true:=by
 have hp:=cJ h
 have hz:=dM h
 unfold bb
 rw [hp,hz]
 unfold aD at h
 by_cases hk:r.kind=1
 ·rw [if_pos hk] at h
  rw [if_pos hk]
  simp only [Bool.and_eq_true] at h
  unfold cZ
  simp [h.2.1]
 ·simp [hk]
theorem yK {r:Rs} {h a:Am} (h1:aD r h=true) (h2:aD r a=true) (hc:bb r h a=false) :
  aD r (bB r h a)=true∧bb r (bB r h a) h=true∧bb r (bB r h a) a=true∧bB r h a≠h:=by
 have p1:=cJ h1
 have p2:=cJ h2
 have z1:=dM h1
 have z2:=dM h2
 have hs:a7 r=true:=by unfold aD at h1;rw [Bool.and_eq_true] at h1;exact h1.1
 unfold bB
 rw [p1,p2,hc]
 simp only [Bool.and_true,cond_true,cond_false]
 rcases bX hs with ⟨hk,_⟩|⟨hk,_⟩
 ·obtain ⟨hm,hu⟩:=h
  obtain ⟨am,au⟩:=a
  have f1:=h1
  have f2:=h2
  unfold aD at f1 f2
  rw [if_pos hk] at f1 f2
  simp only [Bool.and_eq_true,decide_eq_true_eq] at f1 f2
  obtain ⟨_,m1,rfl⟩:=f1
  obtain ⟨_,m2,rfl⟩:=f2
  have cv:∀x y:Int,bQ x=true→bQ y=true→bb r ⟨x,0⟩ ⟨y,0⟩=cZ x y:=by
   intro x y hx hy
   have ft:∀z:Int,bQ z=true→aD r ⟨z,0⟩=true:=by intro z hz;unfold aD;rw [if_pos hk,hs,hz];rfl
   have p3:=cJ (ft x hx)
   have p4:=cJ (ft y hy)
   have z3:=dM (ft x hx)
   have z4:=dM (ft y hy)
   unfold bb
   rw [p3,p4,z3,z4,if_pos hk]
   rfl
  rw [cv _ _ m1 m2] at hc
  obtain ⟨s1,s2,s3,s4⟩:=GX m1 m2 hc
  rw [cv _ _ m2 m1]
  have e:(bif cZ am hm then (⟨am,0⟩:Am) else ⟨lO hm am,0⟩)=⟨bif cZ am hm then am else lO hm am,0⟩:=by cases cZ am hm <;> rfl
  rw [e,cv _ _ s1 m1,cv _ _ s1 m2]
  refine ⟨?_,s2,s3,?_⟩
  ·unfold aD
   rw [if_pos hk,hs,s1]
   rfl
  ·intro h
   injection h with h
   exact s4 h
 ·have hk1:¬r.kind=1:=by omega
  have hc2:h.units<a.units:=by
   unfold bb at hc
   rw [p1,p2,z1,z2,if_neg hk1] at hc
   simpa using hc
  have c2:bb r a h=true:=by
   unfold bb
   rw [p1,p2,z1,z2,if_neg hk1]
   simp
   omega
  rw [c2,cond_true]
  exact ⟨h2,c2,pT h2,fun e=>by rw [e] at hc2;omega⟩
def gV (x:Wt):Wt:={ x with passed:=x.passed+1 }
def jJ (w:Wt) (l:List Wt):Nat→Nat
 | 0=>0
 | n+1=>match l[n]? with
  | none=>n+1
  | some x=>bif decide (x.prio<w.prio) && decide (x.passed<3) then jJ w l n else n+1
def im (l:List Wt) (w:Wt):List Wt:=l.take (jJ w l l.length)++w :: (l.drop (jJ w l l.length)).map gV
theorem yL (w:Wt) (l:List Wt):∀n,jJ w l n≤n
 | 0=>Nat.le_refl _
 | n+1=>by
  unfold jJ
  cases l[n]? with
  | none=>exact Nat.le_refl _
  | some x =>
   dsimp only
   cases decide (x.prio<w.prio) && decide (x.passed<3) with
   | true=>have:=yL w l n;simp only [cond_true];omega
   | false=>exact Nat.le_refl _
theorem sq (w:Wt) (l:List Wt):∀n j x,jJ w l n≤j→j<n→l[j]? = some x→x.prio<w.prio∧x.passed<3
 | 0,_,_,_,h,_=>absurd h (by omega)
 | n+1,j,x,hk,hj,hx=>by
  unfold jJ at hk
  by_cases hjn:j=n
  ·subst hjn
   rw [hx] at hk
   dsimp only at hk
   cases hc:decide (x.prio<w.prio) && decide (x.passed<3) with
   | true=>simpa using hc
   | false=>rw [hc] at hk;simp only [cond_false] at hk;omega
  ·cases hn:l[n]? with
   | none=>rw [hn] at hk;dsimp only at hk;omega
   | some y =>
    rw [hn] at hk
    dsimp only at hk
    cases hc:decide (y.prio<w.prio) && decide (y.passed<3) with
    | true=>rw [hc] at hk;exact sq w l n j x hk (by omega) hx
    | false=>rw [hc] at hk;simp only [cond_false] at hk;omega
theorem vM (l:List Wt) (w:Wt):(im l w).length=l.length+1:=by
 unfold im
 have:=yL w l l.length
 simp
 omega
theorem xB (l:List Wt) (w:Wt):(bN (im l w)).Perm (w.proc :: bN l):=by
 have e:bN (im l w)=bN (l.take (jJ w l l.length))++w.proc :: bN (l.drop (jJ w l l.length)):=by
  unfold im bN
  rw [List.map_append,List.map_cons,List.map_map]
  rfl
 have e2:bN l=bN (l.take (jJ w l l.length))++bN (l.drop (jJ w l l.length)):=by
  unfold bN
  rw [←List.map_append,List.take_append_drop]
 rw [e]
 conv=>rhs;rw [e2]
 exact List.perm_middle
theorem pU {l:List Wt} {w x:Wt} (hx:x∈im l w):x=w∨x∈l∨∃y∈l,x=gV y∧y.prio<w.prio∧y.passed<3:=by
 unfold im at hx
 rcases List.mem_append.1 hx with hx|hx
 ·exact .inr (.inl (List.mem_of_mem_take hx))
 ·rcases List.mem_cons.1 hx with hx|hx
  ·exact .inl hx
  ·obtain ⟨y,hy,rfl⟩:=List.mem_map.1 hx
   obtain ⟨j,hj,e⟩:=List.mem_iff_getElem.1 hy
   rw [List.getElem_drop] at e
   rw [List.length_drop] at hj
   have h1:=sq w l l.length (jJ w l l.length+j) y (by omega) (by omega) (by rw [List.getElem?_eq_getElem (by omega),e])
   exact .inr (.inr ⟨y,List.mem_of_mem_drop hy,rfl,h1⟩)
theorem dI {l:List Wt} {p:Pr}:f5 l p=none↔∀x∈l,x.proc≠p:=by
 induction l with
 | nil=>simp [f5]
 | cons x l ih =>
  rw [cr]
  by_cases hx:x.proc=p
  ·rw [decide_eq_true hx,cond_true]
   constructor
   ·intro h;cases h
   ·intro h;exact absurd hx (h x (by simp))
  ·rw [decide_eq_false hx,cond_false,ih]
   constructor
   ·intro h y hy
    rcases List.mem_cons.1 hy with rfl|hy
    ·exact hx
    ·exact h y hy
   ·intro h y hy;exact h y (by simp [hy])
theorem Av {l:List Wt} {p:Pr} {a:Am} (h:f5 l p=some a):∃x∈l,x.proc=p∧x.am=a:=by
 induction l with
 | nil=>cases h
 | cons x l ih =>
  rw [cr] at h
  by_cases hx:x.proc=p
  ·rw [decide_eq_true hx,cond_true] at h
   injection h with h
   exact ⟨x,by simp,hx,h⟩
  ·rw [decide_eq_false hx,cond_false] at h
   obtain ⟨y,h1,h2⟩:=ih h
   exact ⟨y,by simp [h1],h2⟩
theorem dV (l m:List Wt) (p:Pr):f5 (l++m) p=match f5 l p with|some a=>some a|none=>f5 m p:=by
 induction l with
 | nil=>rfl
 | cons x l ih =>
  rw [List.cons_append,cr,cr]
  cases decide (x.proc=p) with
  | true=>rfl
  | false=>exact ih
theorem pV {l:List Wt} {x:Wt} (hn:(bN l).Nodup) (hx:x∈l):f5 l x.proc=some x.am:=by
 induction l with
 | nil=>cases hx
 | cons y l ih =>
  have hn':(y.proc :: bN l).Nodup:=hn
  rw [List.nodup_cons] at hn'
  rw [cr]
  rcases List.mem_cons.1 hx with rfl|hx
  ·rw [decide_eq_true rfl];rfl
  ·have:y.proc≠x.proc:=fun e=>hn'.1 (e▸List.mem_map.2 ⟨x,hx,rfl⟩)
   rw [decide_eq_false this,cond_false]
   exact ih hn'.2 hx
theorem Sd.nd {q:Qu} (h:Sd q):(bN (q.convs++q.waits)).Nodup:=by
 unfold bN
 rw [List.map_append,List.nodup_append]
 refine ⟨h.cnd,h.wnd,?_⟩
 intro a ha b hb
 obtain ⟨x,hx,rfl⟩:=List.mem_map.1 ha
 obtain ⟨y,hy,rfl⟩:=List.mem_map.1 hb
 exact h.noboth hx hy
theorem EP {q:Qu} (h:Sd q) {x:Wt} (hx:di q=some x) (p:Pr):(p≠x.proc∧aq (gF q x).holds p=aq q.holds p∧ap (gF q x) p=ap q p)∨(p=x.proc∧ap q p=some x.am∧aq (gF q x).holds p=x.am∧ap (gF q x) p=none):=by
 have hn:=h.nd
 obtain ⟨res,hs,cs,ws,gen⟩:=q
 unfold di at hx
 unfold gF ap
 cases cs with
 | cons c l =>
  injection hx with hx
  subst hx
  have hn':(c.proc :: bN (l++ws)).Nodup:=hn
  rw [List.nodup_cons] at hn'
  dsimp only
  rw [List.cons_append,cr,eE]
  by_cases hp:p=c.proc
  ·subst hp
   refine .inr ⟨rfl,by rw [decide_eq_true rfl];rfl,by rw [if_pos rfl],?_⟩
   rw [dI]
   intro y hy e
   exact hn'.1 (e▸List.mem_map.2 ⟨y,hy,rfl⟩)
  ·exact .inl ⟨hp,by rw [if_neg hp],by rw [decide_eq_false (fun e=>hp e.symm)];rfl⟩
 | nil =>
  cases ws with
  | nil=>cases hx
  | cons c l =>
   have hx':some c=some x:=hx
   injection hx' with hx'
   subst hx'
   have hn':(c.proc :: bN l).Nodup:=hn
   rw [List.nodup_cons] at hn'
   dsimp only
   rw [List.nil_append,List.nil_append,List.tail_cons,cr,eE]
   by_cases hp:p=c.proc
   ·subst hp
    refine .inr ⟨rfl,by rw [decide_eq_true rfl];rfl,by rw [if_pos rfl],?_⟩
    rw [dI]
    intro y hy e
    exact hn'.1 (e▸List.mem_map.2 ⟨y,hy,rfl⟩)
   ·exact .inl ⟨hp,by rw [if_neg hp],by rw [decide_eq_false (fun e=>hp e.symm)];rfl⟩
theorem yM:∀(n:Nat) (q:Qu) (acc:List Ho),Sd q→∀p,(aq (eF n q acc).1.holds p=aq q.holds p∧ap (eF n q acc).1 p=ap q p)∨∃a,ap q p=some a∧aq (eF n q acc).1.holds p=a∧ap (eF n q acc).1 p=none
 | 0,q,acc,_,p=>.inl ⟨rfl,rfl⟩
 | n+1,q,acc,h,p=>by
  unfold eF
  cases hx:di q with
  | none=>exact .inl ⟨rfl,rfl⟩
  | some x =>
   dsimp only
   cases hr:fv q.res q.holds x.proc x.am with
   | false=>exact .inl ⟨rfl,rfl⟩
   | true =>
    rw [cond_true]
    have h1:=yM n (gF q x) (acc++[⟨x.proc,x.am⟩]) (h.pop hx hr) p
    rcases EP h hx p with ⟨_,h2,h3⟩|⟨_,h2,h3,h4⟩
    ·rw [h2,h3] at h1
     exact h1
    ·rcases h1 with ⟨h5,h6⟩|⟨a,h5,_⟩
     ·exact .inr ⟨x.am,h2,h5.trans h3,h6.trans h4⟩
     ·rw [h4] at h5
      cases h5
theorem sr:∀(n:Nat) (q:Qu) (acc:List Ho),∀x∈(eF n q acc).1.waits,x∈q.waits
 | 0,q,acc,x,hx=>hx
 | n+1,q,acc,x,hx=>by
  unfold eF at hx
  cases hh:di q with
  | none=>rw [hh] at hx;exact hx
  | some y =>
   rw [hh] at hx
   dsimp only at hx
   cases hr:fv q.res q.holds y.proc y.am with
   | false=>rw [hr] at hx;exact hx
   | true =>
    rw [hr,cond_true] at hx
    have h1:=sr n (gF q y) _ x hx
    unfold gF at h1
    split at h1
    ·exact h1
    ·exact List.mem_of_mem_tail h1
def jh:Qu:=⟨⟨⟨#[]⟩,0,0,0⟩,[],[],[],0⟩
def b7 (l:List Wt) (p:Pr):List Wt:=l.filter fun x=>!decide (x.proc=p)
theorem gG {l:List Wt} {p:Pr} {x:Wt}:x∈b7 l p↔x∈l∧x.proc≠p:=by unfold b7;simp
theorem yN {l:List Wt} (p:Pr) (h:(bN l).Nodup):(bN (b7 l p)).Nodup:=h.sublist ((List.filter_sublist).map _)
theorem io (l:List Wt) (p:Pr):(b7 l p).length≤l.length:=List.length_filter_le _ _
theorem vN (l:List Wt) (p r:Pr):f5 (b7 l p) r=if r=p then none else f5 l r:=by
 by_cases hr:r=p
 ·rw [if_pos hr,dI]
  intro x hx e
  exact (gG.1 hx).2 (e.trans hr)
 ·rw [if_neg hr]
  induction l with
  | nil=>rfl
  | cons x l ih =>
   rw [cr]
   unfold b7 at ih ⊢
   rw [List.filter_cons]
   by_cases hx:x.proc=p
   ·rw [decide_eq_true hx,Bool.not_true,if_neg (by simp),ih,decide_eq_false (fun e=>hr (e.symm.trans hx)),cond_false]
   ·rw [decide_eq_false hx,Bool.not_false,if_pos rfl,cr,ih]
def lh (l:List Wt) (w:Wt):Int×List Wt :=
 bif !eh l then (2,[]) else bif !(pe w && decide (w.passed=0)) then (1,[]) else bif decide (0≤dh l w.proc) then (11,[]) else bif decide (l.length=8) then (4,[]) else (0,im l w)
def iL (r:Qu×List Ho):Qu×List Ho×Int:=(r.1,r.2,0)
def bW (e:Int):Qu×List Ho×Int:=(jh,[],e)
def bK (q:Qu) (p:Pr) (a:Am) (prio:Int):Qu×List Ho×Int :=
 bif !ax q then bW 2 else
 bif !(js p && decide (0≤prio) && decide (prio≤7)) then bW 1 else
 bif !aD q.res a then bW 12 else
 bif (ap q p).isSome then bW 14 else
 bif bb q.res (aq q.holds p) a then iL (q,[]) else
 bif !aG (aq q.holds p) then iL (dE { q with convs:=q.convs++[⟨p,bB q.res (aq q.holds p) a,0,0⟩] }) else
 bif decide (8≤q.holds.length+q.waits.length) then bW 4 else
 bif !decide ((lh q.waits ⟨p,a,prio,0⟩).1=0) then bW (lh q.waits ⟨p,a,prio,0⟩).1 else
 iL (dE { q with waits:=(lh q.waits ⟨p,a,prio,0⟩).2 })
def bq (q:Qu) (p:Pr):Qu×List Ho×Int :=
 bif !ax q then bW 2 else bif !(ap q p).isSome then bW 10 else iL (dE { q with convs:=b7 q.convs p,waits:=b7 q.waits p })
def bC (q:Qu) (p:Pr) (a:Am):Qu×List Ho×Int :=
 bif !ax q then bW 2 else bif aG (aq q.holds p) then bW 10 else bif (ap q p).isSome then bW 14 else bif !bb q.res (aq q.holds p) a then bW 12 else
 bif decide (aq q.holds p=a) then iL (q,[]) else iL (dE { q with holds:=b9 q.holds p a })
def fu (q:Qu) (p:Pr):Bool:=(ap q p).isSome || !aG (aq q.holds p)
def ba (q:Qu) (p:Pr):Qu×List Ho×Int :=
 bif !ax q then bW 2 else bif !fu q p then bW 10 else iL (dE { q with holds:=b9 q.holds p ⟨0,0⟩,convs:=b7 q.convs p,waits:=b7 q.waits p })
theorem gH {l m:List Pr} (hn:l.Nodup) (hs:∀x∈l,x∈m):l.length≤m.length:=by
 induction l generalizing m with
 | nil=>exact Nat.zero_le _
 | cons x l ih =>
  rw [List.nodup_cons] at hn
  have hx:=hs x (by simp)
  have h1:=ih (m:=m.erase x) hn.2 fun y hy=>(List.mem_erase_of_ne (fun (e:y=x)=>hn.1 (e▸hy))).2 (hs y (by simp [hy]))
  have h2:=List.length_erase_of_mem hx
  have h3:=List.length_pos_of_mem hx
  rw [List.length_cons]
  omega
theorem Sd.cons {q:Qu} (h:Sd q) {p:Pr} {a:Am} (hh:aq q.holds p≠⟨0,0⟩) (hw:ap q p=none) (hf:aD q.res a=true) (hc:bb q.res (aq q.holds p) a=false) :
  Sd { q with convs:=q.convs++[⟨p,bB q.res (aq q.holds p) a,0,0⟩] }:=by
 have hnone:=dI.1 hw
 obtain ⟨x,hx,hxp,hxa⟩:=jH hh
 have hfh:aD q.res (aq q.holds p)=true:=by rw [←hxa];exact (h.hv.fit x hx).2
 obtain ⟨j1,j2,j3,j4⟩:=yK hfh hf hc
 have hnp:∀y∈q.convs,y.proc≠p:=fun y hy=>hnone y (by simp [hy])
 have hnd:(bN (q.convs++[⟨p,bB q.res (aq q.holds p) a,0,0⟩])).Nodup:=by
  unfold bN
  rw [List.map_append,List.nodup_append]
  refine ⟨h.cnd,by simp,?_⟩
  intro u hu v hv
  obtain ⟨y,hy,rfl⟩:=List.mem_map.1 hu
  simp at hv
  subst hv
  exact hnp y hy
 have hcok:∀y∈q.convs++[⟨p,bB q.res (aq q.holds p) a,0,0⟩],CvOk q.res q.holds y:=by
  intro y hy
  rcases List.mem_append.1 hy with hy|hy
  ·exact h.cok y hy
  ·rw [List.mem_singleton] at hy
   subst hy
   exact ⟨hh,j1,j2,j4,rfl,rfl⟩
 refine ⟨h.res,h.hv,?_,hnd,hcok,h.wlen,h.wnd,h.wok,h.gen⟩
 have hsub:∀u∈bN (q.convs++[⟨p,bB q.res (aq q.holds p) a,0,0⟩]),u∈cw q.holds:=by
  intro u hu
  obtain ⟨y,hy,rfl⟩:=List.mem_map.1 hu
  obtain ⟨z,hz,hzp,_⟩:=jH (hcok y hy).held
  exact List.mem_map.2 ⟨z,hz,hzp⟩
 have h1:=gH hnd hsub
 have h2:=h.hv.len
 unfold bN cw at h1
 rw [List.length_map,List.length_map] at h1
 exact Nat.le_trans h1 h2
theorem jK {r:Rs} {a:Am} (h:aD r a=true):bI a=true:=by
 have hs:a7 r=true:=by unfold aD at h;rw [Bool.and_eq_true] at h;exact h.1
 unfold aD at h
 unfold bI
 rcases bX hs with ⟨hk,_⟩|⟨hk,h1,h2⟩
 ·rw [if_pos hk] at h
  simp only [Bool.and_eq_true,decide_eq_true_eq] at h
  simp [h.2.1,h.2.2]
 ·rw [if_neg (by omega)] at h
  simp only [Bool.and_eq_true,decide_eq_true_eq] at h
  simp only [Bool.or_eq_true,Bool.and_eq_true,decide_eq_true_eq]
  exact .inr ⟨⟨h.2.1.1,h.2.1.2⟩,by omega⟩
theorem Aw {x:Wt} (h:pe x=true):js x.proc=true∧bI x.am=true∧(0≤x.prio∧x.prio≤7)∧(0≤x.passed∧x.passed≤3):=by
 unfold pe at h
 simp only [Bool.and_eq_true,decide_eq_true_eq] at h
 exact ⟨h.1.1.1.1.1,h.1.1.1.1.2,⟨h.1.1.1.2,h.1.1.2⟩,h.1.2,h.2⟩
theorem Cc {x:Wt} (h1:js x.proc=true) (h2:bI x.am=true) (h3:0≤x.prio∧x.prio≤7) (h4:0≤x.passed∧x.passed≤3):pe x=true:=by
 unfold pe
 simp only [Bool.and_eq_true,decide_eq_true_eq]
 exact ⟨⟨⟨⟨⟨h1,h2⟩,h3.1⟩,h3.2⟩,h4.1⟩,h4.2⟩
theorem Sd.ins {q:Qu} (h:Sd q) {w:Wt} (hh:aq q.holds w.proc=⟨0,0⟩) (hw:ap q w.proc=none) (hf:aD q.res w.am=true) (hv:pe w=true) (hl:q.holds.length+q.waits.length<8) :
  Sd { q with waits:=im q.waits w }:=by
 have hnone:=dI.1 hw
 refine ⟨h.res,h.hv,h.clen,h.cnd,h.cok,?_,?_,?_,h.gen⟩
 ·show q.holds.length+(im q.waits w).length≤8
  rw [vM]
  omega
 ·refine (xB q.waits w).nodup_iff.2 (List.nodup_cons.2 ⟨?_,h.wnd⟩)
  intro hm
  obtain ⟨y,hy,e⟩:=List.mem_map.1 hm
  exact hnone y (by simp [hy]) e
 ·intro x hx
  rcases pU hx with rfl|hx|⟨y,hy,rfl,h1,h2⟩
  ·exact ⟨hv,hf,hh⟩
  ·exact h.wok x hx
  ·have h3:=h.wok y hy
   obtain ⟨v1,v2,v3,v4⟩:=Aw h3.1
   exact ⟨Cc (x:=gV y) v1 v2 v3 ⟨by show 0≤y.passed+1;omega,by show y.passed+1≤3;omega⟩,h3.2⟩
theorem Sd.drop {q:Qu} (h:Sd q) (p:Pr):Sd { q with convs:=b7 q.convs p,waits:=b7 q.waits p } :=
 ⟨h.res,h.hv,Nat.le_trans (io _ _) h.clen,yN p h.cnd,fun x hx=>h.cok x (gG.1 hx).1,by have h1:=h.wlen;have h2:=io q.waits p;show q.holds.length+(b7 q.waits p).length≤8;omega,yN p h.wnd,fun x hx=>h.wok x (gG.1 hx).1,h.gen⟩
theorem Sd.lower {q:Qu} (h:Sd q) {p:Pr} {a:Am} (hw:ap q p=none) (h0:aq q.holds p≠⟨0,0⟩) (hc:bb q.res (aq q.holds p) a=true):Sd { q with holds:=b9 q.holds p a }:=by
 have hnone:=dI.1 hw
 obtain ⟨h1,h2⟩:=h.hv.lower hc h0
 refine ⟨h.res,h1,h.clen,h.cnd,fun x hx=>(h.cok x hx).set (hnone x (by simp [hx])),?_,h.wnd,?_,h.gen⟩
 ·have:=h.wlen
  show (b9 q.holds p a).length+q.waits.length≤8
  omega
 ·intro x hx
  refine ⟨(h.wok x hx).1,(h.wok x hx).2.1,?_⟩
  show aq (b9 q.holds p a) x.proc=_
  rw [eE,if_neg (hnone x (by simp [hx]))]
  exact (h.wok x hx).2.2
theorem Ax (l:List Ho) (p:Pr):b9 l p ⟨0,0⟩=d9 l p:=by unfold b9 aG;simp
theorem Sd.gone {q:Qu} (h:Sd q) (p:Pr):Sd { q with holds:=b9 q.holds p ⟨0,0⟩,convs:=b7 q.convs p,waits:=b7 q.waits p }:=by
 have hd:=h.drop p
 rw [Ax]
 have hg:∀r,r≠p→aq (d9 q.holds p) r=aq q.holds r:=fun r hr=>by rw [pQ,if_neg hr]
 refine ⟨h.res,h.hv.fil p,hd.clen,hd.cnd,?_,?_,hd.wnd,?_,h.gen⟩
 ·intro x hx
  have hx':=gG.1 hx
  have h1:=h.cok x hx'.1
  exact ⟨by rw [hg _ hx'.2];exact h1.held,h1.fit,by rw [hg _ hx'.2];exact h1.cov,by rw [hg _ hx'.2];exact h1.ne,h1.prio,h1.passed⟩
 ·have h1:=mb q.holds p
  have h2:=hd.wlen
  show (d9 q.holds p).length+(b7 q.waits p).length≤8
  have h3:q.holds.length+(b7 q.waits p).length≤8:=h2
  omega
 ·intro x hx
  have hx':=gG.1 hx
  have h1:=h.wok x hx'.1
  exact ⟨h1.1,h1.2.1,by rw [hg _ hx'.2];exact h1.2.2⟩
def Eff (q q':Qu) (p:Pr):Prop:=(aq q'.holds p=aq q.holds p∧ap q' p=ap q p)∨∃a,ap q p=some a∧aq q'.holds p=a∧ap q' p=none
theorem oS {q:Qu} (h:Sd q) (p:Pr):Eff q (dE q).1 p:=by
 have:=yM (ge q) q [] h p
 exact this
theorem nu {q:Qu} {x:Wt} (hx:x∈(dE q).1.waits):x∈q.waits:=sr (ge q) q [] x hx
theorem Eff.of {q r q':Qu} {p:Pr} (h:Eff r q' p) (h1:aq r.holds p=aq q.holds p) (h2:ap r p=ap q p):Eff q q' p:=by
 unfold Eff at *
 rw [h1,h2] at h
 exact h
theorem Eff.refl (q:Qu) (p:Pr):Eff q q p:=.inl ⟨rfl,rfl⟩
structure Out (q q':Qu) (p:Pr):Prop where
 ok:ax q'=true
 res:q'.res=q.res
 eff:∀r,r≠p→Eff q q' r
 prio:∀x∈q'.waits,x.proc≠p→∃y∈q.waits,y.proc=x.proc∧y.prio=x.prio
theorem aK {q:Qu} (h:ax q=true):Sd q:=(cG.1 h).1
theorem mu {q r:Qu} {p:Pr} (h:Sd r) (hr:r.res=q.res) (he:∀s,s≠p→aq r.holds s=aq q.holds s∧ap r s=ap q s) (hp:∀x∈r.waits,x.proc≠p→∃y∈q.waits,y.proc=x.proc∧y.prio=x.prio):Out q (dE r).1 p :=
 ⟨(mt h).1,(mt h).2.trans hr,fun s hs=>(oS h s).of (he s hs).1 (he s hs).2,fun x hx hxp=>hp x (nu hx) hxp⟩
theorem Out.same {q:Qu} (p:Pr) (h:ax q=true):Out q q p:=⟨h,rfl,fun r _=>Eff.refl q r,fun x hx _=>⟨x,hx,rfl,rfl⟩⟩
theorem vO {q:Qu} {x:Wt} (s:Pr) (hs:s≠x.proc):ap { q with convs:=q.convs++[x] } s=ap q s:=by
 unfold ap
 dsimp only
 rw [dV,dV,dV]
 have:f5 [x] s=none:=by rw [dI];intro y hy;rw [List.mem_singleton] at hy;subst hy;exact fun e=>hs e.symm
 rw [this]
 cases f5 q.convs s <;> rfl
theorem pW:∀{l m:List Wt} {s:Pr},l.map (fun x=>(x.proc,x.am))=m.map (fun x=>(x.proc,x.am))→f5 l s=f5 m s
 | [],[],_,_=>rfl
 | [],_ :: _,_,h=>by simp at h
 | _ :: _,[],_,h=>by simp at h
 | x :: l,y :: m,s,h=>by
  simp only [List.map_cons,List.cons.injEq,Prod.mk.injEq] at h
  rw [cr,cr,h.1.1,h.1.2,pW h.2]
theorem Ay {l:List Wt} {w:Wt} {s:Pr} (hs:s≠w.proc):f5 (im l w) s=f5 l s:=by
 unfold im
 have e:∀m:List Wt,f5 (m.map gV) s=f5 m s:=fun m=>pW (by rw [List.map_map];rfl)
 rw [dV,cr,decide_eq_false (fun h=>hs h.symm),cond_false,e]
 conv=>rhs;rw [←List.take_append_drop (jJ w l l.length) l]
 rw [dV]
theorem xC {q:Qu} {w:Wt} (s:Pr) (hs:s≠w.proc):ap { q with waits:=im q.waits w } s=ap q s:=by
 unfold ap
 dsimp only
 rw [dV,dV,Ay hs]
theorem iZ (q:Qu) (p s:Pr):ap { q with convs:=b7 q.convs p,waits:=b7 q.waits p } s=if s=p then none else ap q s:=by
 unfold ap
 dsimp only
 rw [dV,dV,vN,vN]
 by_cases h:s=p
 ·simp only [if_pos h]
 ·simp only [if_neg h]
theorem oT {q:Qu} (h:Sd q) {p:Pr} {a:Am} {prio:Int} (hw:ap q p=none) (hf:aD q.res a=true) (hp:js p=true) (h1:0≤prio∧prio≤7) (hl:q.holds.length+q.waits.length<8) :
  lh q.waits ⟨p,a,prio,0⟩=(0,im q.waits ⟨p,a,prio,0⟩)∧pe ⟨p,a,prio,0⟩=true:=by
 have hv:pe ⟨p,a,prio,0⟩=true:=Cc hp (jK hf) h1 (by simp)
 have hln:eh q.waits=true:=so.2 ⟨by omega,fun x hx=>(h.wok x hx).1,h.wnd⟩
 have hnone:=dI.1 hw
 have hfd:dh q.waits p<0:=Au.2 fun x hx=>hnone x (by simp [hx])
 have d1:decide (0≤dh q.waits p)=false:=decide_eq_false (by omega)
 have d2:decide (q.waits.length=8)=false:=decide_eq_false (by omega)
 refine ⟨?_,hv⟩
 unfold lh
 rw [hln,hv]
 simp only [Bool.not_true,Bool.and_self,decide_true,cond_false,d1,d2]
theorem xD {q:Qu} {p:Pr} {a:Am} {prio:Int} (h:(bK q p a prio).2.2=0):Out q (bK q p a prio).1 p:=by
 unfold bK at h ⊢
 cases hS:ax q with
 | false=>rw [hS] at h;simp [bW] at h
 | true =>
  have hd:=aK hS
  rw [hS] at h
  simp only [Bool.not_true,cond_false] at h ⊢
  cases hA:js p && decide (0≤prio) && decide (prio≤7) with
  | false=>rw [hA] at h;simp [bW] at h
  | true =>
   rw [hA] at h
   simp only [Bool.not_true,cond_false] at h ⊢
   simp only [Bool.and_eq_true,decide_eq_true_eq] at hA
   cases hF:aD q.res a with
   | false=>rw [hF] at h;simp [bW] at h
   | true =>
    rw [hF] at h
    simp only [Bool.not_true,cond_false] at h ⊢
    cases hW:ap q p with
    | some b=>rw [hW] at h;simp [bW] at h
    | none =>
     rw [hW] at h
     simp only [Option.isSome_none,cond_false] at h ⊢
     cases hC:bb q.res (aq q.holds p) a with
     | true=>exact Out.same p hS
     | false =>
      rw [hC] at h
      simp only [cond_false] at h ⊢
      cases hZ:aG (aq q.holds p) with
      | false =>
       simp only [Bool.not_false,cond_true]
       exact mu (hd.cons (bo.1 hZ) hW hF hC) rfl (fun s hs=>⟨rfl,vO s hs⟩) (fun x hx _=>⟨x,hx,rfl,rfl⟩)
      | true =>
       rw [hZ] at h
       simp only [Bool.not_true,cond_false] at h ⊢
       by_cases hl:8≤q.holds.length+q.waits.length
       ·rw [decide_eq_true hl] at h;simp [bW] at h
       ·rw [decide_eq_false hl] at h ⊢
        simp only [cond_false] at h ⊢
        obtain ⟨e1,hv⟩:=oT hd hW hF hA.1.1 ⟨hA.1.2,hA.2⟩ (by omega)
        rw [e1]
        simp only [decide_true,Bool.not_true,cond_false]
        have hz:aq q.holds p=⟨0,0⟩:=of_decide_eq_true hZ
        refine mu (hd.ins hz hW hF hv (by omega)) rfl (fun s hs=>⟨rfl,xC s hs⟩) ?_
        intro x hx hxp
        rcases pU hx with rfl|hx|⟨y,hy,rfl,_,_⟩
        ·exact absurd rfl hxp
        ·exact ⟨x,hx,rfl,rfl⟩
        ·exact ⟨y,hy,rfl,rfl⟩
theorem vP {q:Qu} {p:Pr} (h:(bq q p).2.2=0):Out q (bq q p).1 p:=by
 unfold bq at h ⊢
 cases hS:ax q with
 | false=>rw [hS] at h;simp [bW] at h
 | true =>
  have hd:=aK hS
  rw [hS] at h
  simp only [Bool.not_true,cond_false] at h ⊢
  cases hW:(ap q p).isSome with
  | false=>rw [hW] at h;simp [bW] at h
  | true =>
   simp only [Bool.not_true,cond_false]
   exact mu (hd.drop p) rfl (fun s hs=>⟨rfl,by rw [iZ,if_neg hs]⟩) (fun x hx _=>⟨x,(gG.1 hx).1,rfl,rfl⟩)
theorem xE {q:Qu} {p:Pr} {a:Am} (h:(bC q p a).2.2=0):Out q (bC q p a).1 p:=by
 unfold bC at h ⊢
 cases hS:ax q with
 | false=>rw [hS] at h;simp [bW] at h
 | true =>
  have hd:=aK hS
  rw [hS] at h
  simp only [Bool.not_true,cond_false] at h ⊢
  cases hZ:aG (aq q.holds p) with
  | true=>rw [hZ] at h;simp [bW] at h
  | false =>
   rw [hZ] at h
   simp only [cond_false] at h ⊢
   cases hW:ap q p with
   | some b=>rw [hW] at h;simp [bW] at h
   | none =>
    rw [hW] at h
    simp only [Option.isSome_none,cond_false] at h ⊢
    cases hC:bb q.res (aq q.holds p) a with
    | false=>rw [hC] at h;simp [bW] at h
    | true =>
     simp only [Bool.not_true,cond_false]
     cases hE:decide (aq q.holds p=a) with
     | true=>exact Out.same p hS
     | false =>
      simp only [cond_false]
      exact mu (hd.lower hW (bo.1 hZ) hC) rfl (fun s hs=>⟨by show aq (b9 q.holds p a) s=_;rw [eE,if_neg hs],rfl⟩) (fun x hx _=>⟨x,hx,rfl,rfl⟩)
theorem vQ {q:Qu} {p:Pr} (h:(ba q p).2.2=0):Out q (ba q p).1 p:=by
 unfold ba at h ⊢
 cases hS:ax q with
 | false=>rw [hS] at h;simp [bW] at h
 | true =>
  have hd:=aK hS
  rw [hS] at h
  simp only [Bool.not_true,cond_false] at h ⊢
  cases hH:fu q p with
  | false=>rw [hH] at h;simp [bW] at h
  | true =>
   simp only [Bool.not_true,cond_false]
   refine mu (hd.gone p) rfl (fun s hs=>⟨by show aq (b9 q.holds p ⟨0,0⟩) s=_;rw [eE,if_neg hs],?_⟩) (fun x hx _=>⟨x,(gG.1 hx).1,rfl,rfl⟩)
   have:=iZ q p s
   rw [if_neg hs] at this
   exact this
theorem jL {l:List Ho} (ha:(cw l).Pairwise fq) {x:Ho} (hx:x∈l):aq l x.proc=x.am:=by
 induction l with
 | nil=>cases hx
 | cons y l ih =>
  have ha':(y.proc :: cw l).Pairwise fq:=ha
  obtain ⟨h1,h2⟩:=List.pairwise_cons.1 ha'
  show (bif decide (y.proc=x.proc) then y.am else aq l x.proc)=x.am
  rcases List.mem_cons.1 hx with rfl|hx
  ·rw [decide_eq_true rfl];rfl
  ·have h3:=h1 x.proc (List.mem_map.2 ⟨x,hx,rfl⟩)
   rw [decide_eq_false (fun (e:y.proc=x.proc)=>bp _ (e▸h3)),cond_false]
   exact ih h2 hx
theorem dA {q:Qu} (h:Sd q) (r:Pr):r∈eM q↔fu q r=true:=by
 unfold eM fu
 rw [ct,List.mem_append,Bool.or_eq_true,Bool.not_eq_true',bo]
 constructor
 ·rintro (h1|h1)
  ·obtain ⟨x,hx,rfl⟩:=List.mem_map.1 h1
   right
   rw [jL h.hv.asc hx]
   exact bo.1 (dM (h.hv.fit x hx).2)
  ·left
   have h2:r∈bN (q.convs++q.waits):=h1
   obtain ⟨x,hx,rfl⟩:=List.mem_map.1 h2
   unfold ap
   rw [pV h.nd hx]
   rfl
 ·rintro (h1|h1)
  ·right
   obtain ⟨a,ha⟩:=Option.isSome_iff_exists.1 h1
   obtain ⟨x,hx,hp,_⟩:=Av ha
   show r∈bN (q.convs++q.waits)
   exact List.mem_map.2 ⟨x,hx,hp⟩
  ·left
   obtain ⟨x,hx,hp,_⟩:=jH h1
   exact List.mem_map.2 ⟨x,hx,hp⟩
theorem fR:∀{l:List Qu} {r:Pr},r∈jC l↔∃q∈l,r∈eM q
 | [],r=>by simp [jC]
 | q :: l,r=>by
  show r∈eM q++jC l↔_
  rw [List.mem_append,fR]
  simp
theorem Eff.has {q q':Qu} {p:Pr} (h:Eff q q' p) (hq:fu q' p=true):fu q p=true:=by
 unfold fu at *
 rcases h with ⟨h1,h2⟩|⟨a,h1,_,_⟩
 ·rw [h1,h2] at hq
  exact hq
 ·rw [h1]
  rfl
def df (t:List Qu):Bool:=fy t && decide ((aF t).length≤8)
def es (t:List Qu):List ByteArray:=t.map (·.res.name)
theorem pX:∀{l:List Qu} {p:Option ByteArray},lf p l=true→∀q∈l,ax q=true
 | [],_,_,q,hq=>absurd hq (by simp)
 | x :: l,p,h,q,hq=>by
  rw [dH] at h
  simp only [Bool.and_eq_true] at h
  rcases List.mem_cons.1 hq with rfl|hq
  ·exact h.1.1
  ·exact pX h.2 q hq
theorem vR {q':Qu} (hs:ax q'=true):∀{l:List Qu} {p:Option ByteArray} {i:Nat} (h:i<l.length),lf p l=true→q'.res.name=l[i].res.name→lf p (l.set i q')=true
 | [],_,_,h,_,_=>absurd h (by simp)
 | x :: l,p,0,h,hv,hn=>by
  rw [dH] at hv
  simp only [Bool.and_eq_true] at hv
  have hn':q'.res.name=x.res.name:=hn
  rw [List.set_cons_zero,dH,hn']
  simp only [Bool.and_eq_true]
  exact ⟨⟨hs,hv.1.2⟩,hv.2⟩
 | x :: l,p,i+1,h,hv,hn=>by
  rw [dH] at hv
  simp only [Bool.and_eq_true] at hv
  rw [List.set_cons_succ,dH]
  simp only [Bool.and_eq_true]
  exact ⟨hv.1,vR hs (by simpa using h) hv.2 (by simpa using hn)⟩
def iM (a b:ByteArray):Bool:=Op.bytesLess a.toList b.toList
theorem fC {a b c:ByteArray} (h1:iM a b=true) (h2:iM b c=true):iM a c=true:=by
 unfold iM at *
 rw [bytesLess_eq,decide_eq_true_eq] at *
 exact List.lt_trans h1 h2
theorem dW (a:ByteArray):iM a a=false:=by
 unfold iM
 rw [bytesLess_eq,decide_eq_false_iff_not]
 exact List.lt_irrefl _
theorem jM:∀{l:List Qu} {p:Option ByteArray},lf p l=true→(es l).Pairwise (fun a b=>iM a b=true)∧∀m,p=some m→∀n∈es l,iM m n=true
 | [],_,_=>⟨by simp [es],fun _ _ n hn=>absurd hn (by simp [es])⟩
 | x :: l,p,h=>by
  rw [dH] at h
  simp only [Bool.and_eq_true] at h
  obtain ⟨h1,h2⟩:=jM h.2
  refine ⟨List.pairwise_cons.2 ⟨fun n hn=>h2 _ rfl n hn,h1⟩,?_⟩
  intro m hm n hn
  subst hm
  have h3:iM m x.res.name=true:=h.1.2
  rcases List.mem_cons.1 (show n∈x.res.name :: es l from hn) with rfl|hn
  ·exact h3
  ·exact fC h3 (h2 _ rfl n hn)
theorem bD {t:List Qu} (h:df t=true):t.length≤8∧lf none t=true∧(aF t).length≤8:=by
 unfold df fy at h
 simp only [Bool.and_eq_true,decide_eq_true_eq] at h
 exact ⟨h.1.1,h.1.2,h.2⟩
theorem vS {t:List Qu} (h:df t=true):(es t).Nodup:=by
 have:=(jM (bD h).2.1).1
 exact this.imp fun {a b} hab e=>by rw [e,dW] at hab;cases hab
theorem cA {t:List Qu} (h:df t=true) {q:Qu} (hq:q∈t):ax q=true:=pX (bD h).2.1 q hq
theorem pY {a b:ByteArray}:(a.toList == b.toList)=true↔a=b:=by
 rw [beq_iff_eq]
 exact ⟨toList_inj,fun h=>by rw [h]⟩
theorem vT:∀{t:List Qu} {i k:Nat} (h:i<t.length),(es t).Nodup→bi t[i].res.name k t=((k+i:Nat):Int)
 | [],_,_,h,_=>absurd h (by simp)
 | q :: t,0,k,h,_=>by
  rw [eN]
  have:(q.res.name.toList == ((q :: t)[0]).res.name.toList)=true:=by simp
  rw [this]
  simp
 | q :: t,i+1,k,h,hn=>by
  have hn':(q.res.name :: es t).Nodup:=hn
  rw [List.nodup_cons] at hn'
  rw [eN]
  have hi:i<t.length:=by simpa using h
  have hne:(q.res.name.toList == ((q :: t)[i+1]).res.name.toList)=false:=by
   cases hc:(q.res.name.toList == ((q :: t)[i+1]).res.name.toList) with
   | false=>rfl
   | true =>
    have e:=pY.1 hc
    exact absurd (e▸List.mem_map.2 ⟨t[i],List.getElem_mem hi,rfl⟩) hn'.1
  rw [hne,cond_false]
  have:=vT (k:=k+1) hi hn'.2
  simp only [List.getElem_cons_succ]
  rw [this]
  omega
theorem i3:∀{t:List Qu} {n:ByteArray} {k:Nat},0≤bi n k t→∃i,∃h:i<t.length,bi n k t=((k+i:Nat):Int)∧t[i].res.name=n
 | [],n,k,h=>by simp [bi] at h
 | q :: t,n,k,h=>by
  rw [eN] at h ⊢
  cases hc:(q.res.name.toList == n.toList) with
  | true=>exact ⟨0,by simp,by simp,pY.1 hc⟩
  | false =>
   rw [hc,cond_false] at h
   rw [cond_false]
   obtain ⟨i,hi,h1,h2⟩:=i3 h
   exact ⟨i+1,by simpa using hi,by rw [h1];omega,by simpa using h2⟩
structure TOut (t t':List Qu) (i:Nat) (p:Pr):Prop where
 lt:i<t.length
 set:∃q,t'=t.set i q∧Out t[i] q p
theorem TOut.len {t t':List Qu} {i:Nat} {p:Pr} (h:TOut t t' i p):t'.length=t.length:=by obtain ⟨q,rfl,_⟩:=h.set;simp
theorem TOut.at {t t':List Qu} {i:Nat} {p:Pr} (h:TOut t t' i p):∃q,t'[i]? = some q∧Out (t[i]'h.lt) q p:=by
 obtain ⟨q,rfl,ho⟩:=h.set
 exact ⟨q,by rw [List.getElem?_set_self h.lt],ho⟩
theorem TOut.other {t t':List Qu} {i:Nat} {p:Pr} (h:TOut t t' i p) {j:Nat} (hj:j≠i):t'[j]? = t[j]?:=by
 obtain ⟨q,rfl,_⟩:=h.set
 rw [List.getElem?_set_ne (Ne.symm hj)]
theorem TOut.names {t t':List Qu} {i:Nat} {p:Pr} (h:TOut t t' i p):es t'=es t:=by
 obtain ⟨q,rfl,ho⟩:=h.set
 unfold es
 rw [List.map_set]
 have e:q.res.name=(t[i]'h.lt).res.name:=by rw [ho.res]
 rw [e]
 apply List.ext_getElem
 ·simp
 ·intro j h1 h2
  rw [List.getElem_set]
  split
  ·next hij=>subst hij;simp
  ·rfl
theorem ss {t t':List Qu} {i:Nat} {p:Pr} (hv:df t=true) (h:TOut t t' i p):∀r∈aF t',r=p∨r∈aF t:=by
 obtain ⟨q,rfl,ho⟩:=h.set
 intro r hr
 unfold aF at hr ⊢
 rw [ct,fR] at hr ⊢
 obtain ⟨x,hx,hrx⟩:=hr
 rcases List.mem_or_eq_of_mem_set hx with hx|rfl
 ·exact .inr ⟨x,hx,hrx⟩
 ·by_cases hrp:r=p
  ·exact .inl hrp
  ·right
   have h1:=(dA (aK ho.ok) r).1 hrx
   have hm:t[i]'h.lt∈t:=List.getElem_mem h.lt
   exact ⟨_,hm,(dA (aK (cA hv hm)) r).2 ((ho.eff r hrp).has h1)⟩
theorem fb (t:List Qu):(aF t).Nodup:=by
 unfold List.Nodup aF
 exact (ij (jC t)).imp fun {a b} (hab:fq a b) (e:a=b)=>by rw [e] at hab;exact bp b hab
theorem TOut.valid {t t':List Qu} {i:Nat} {p:Pr} (hv:df t=true) (h:TOut t t' i p) (hp:(aF t).length≤7∨p∈aF t∨p ∉ aF t'):df t'=true:=by
 have hsub:=ss hv h
 obtain ⟨q,rfl,ho⟩:=h.set
 obtain ⟨h1,h2,h3⟩:=bD hv
 unfold df fy
 simp only [Bool.and_eq_true,decide_eq_true_eq]
 refine ⟨⟨by simpa using h1,vR ho.ok h.lt h2 (by rw [ho.res])⟩,?_⟩
 rcases hp with hp|hp|hp
 ·have h4:=gH (m:=p :: aF t) (fb (t.set i q)) fun r hr=>by
   rcases hsub r hr with e|e
   ·simp [e]
   ·simp [e]
  rw [List.length_cons] at h4
  omega
 ·have h4:=gH (m:=aF t) (fb (t.set i q)) fun r hr=>by
   rcases hsub r hr with e|e
   ·rw [e];exact hp
   ·exact e
  omega
 ·have h4:=gH (m:=aF t) (fb (t.set i q)) fun r hr=>by
   rcases hsub r hr with e|e
   ·exact absurd (e▸hr) hp
   ·exact e
  omega
theorem pZ {r:Rs} {a:Am} (h:aD r a=true):bB r ⟨0,0⟩ a=a:=by
 have hs:a7 r=true:=by unfold aD at h;rw [Bool.and_eq_true] at h;exact h.1
 have hp:=cJ h
 have hz:=dM h
 have p0:be r ⟨0,0⟩=true:=by unfold be aG;rw [hs];rfl
 have z0:aG ⟨0,0⟩=true:=rfl
 have c1:bb r ⟨0,0⟩ a=false:=by unfold bb;rw [p0,hp,hz,z0];simp
 have c2:bb r a ⟨0,0⟩=true:=by unfold bb;rw [p0,hp,z0];simp
 unfold bB
 rw [p0,hp,c1,c2]
 rfl
theorem tR {q:Qu} {p:Pr} {a:Am} {prio:Int} (h:(bK q p a prio).2.2=0):ax q=true∧js p=true∧(0≤prio∧prio≤7)∧aD q.res a=true∧ap q p=none∧
    ((bb q.res (aq q.holds p) a=true∧bK q p a prio=iL (q,[]))∨
     (bb q.res (aq q.holds p) a=false∧aq q.holds p≠⟨0,0⟩∧bK q p a prio=iL (dE { q with convs:=q.convs++[⟨p,bB q.res (aq q.holds p) a,0,0⟩] }))∨
     (bb q.res (aq q.holds p) a=false∧aq q.holds p=⟨0,0⟩∧q.holds.length+q.waits.length<8∧pe ⟨p,a,prio,0⟩=true∧bK q p a prio=iL (dE { q with waits:=im q.waits ⟨p,a,prio,0⟩ }))):=by
  unfold bK at h ⊢
  cases hS:ax q with
  | false=>rw [hS] at h;simp [bW] at h
  | true =>
    have hd:=aK hS
    rw [hS] at h
    simp only [Bool.not_true,cond_false] at h ⊢
    cases hA:js p && decide (0≤prio) && decide (prio≤7) with
    | false=>rw [hA] at h;simp [bW] at h
    | true =>
      rw [hA] at h
      simp only [Bool.not_true,cond_false] at h ⊢
      simp only [Bool.and_eq_true,decide_eq_true_eq] at hA
      cases hF:aD q.res a with
      | false=>rw [hF] at h;simp [bW] at h
      | true =>
        rw [hF] at h
        simp only [Bool.not_true,cond_false] at h ⊢
        cases hW:ap q p with
        | some b=>rw [hW] at h;simp [bW] at h
        | none =>
          rw [hW] at h
          simp only [Option.isSome_none,cond_false] at h ⊢
          refine ⟨trivial,hA.1.1,⟨hA.1.2,hA.2⟩,trivial,trivial,?_⟩
          cases hC:bb q.res (aq q.holds p) a with
          | true=>exact .inl ⟨rfl,rfl⟩
          | false =>
            rw [hC] at h
            simp only [cond_false] at h ⊢
            right
            cases hZ:aG (aq q.holds p) with
            | false=>exact .inl ⟨trivial,bo.1 hZ,rfl⟩
            | true =>
              rw [hZ] at h
              simp only [Bool.not_true,cond_false] at h ⊢
              right
              by_cases hl:8≤q.holds.length+q.waits.length
              · rw [decide_eq_true hl] at h;simp [bW] at h
              · rw [decide_eq_false hl] at h ⊢
                simp only [cond_false] at h ⊢
                obtain ⟨e1,hv⟩:=oT hd hW hF hA.1.1 ⟨hA.1.2,hA.2⟩ (by omega)
                rw [e1]
                simp only [decide_true,Bool.not_true,cond_false]
                exact ⟨by trivial,of_decide_eq_true hZ,by omega,hv,by trivial⟩
theorem vU {q:Qu} {p:Pr} {a:Am} {prio:Int} (hS:ax q=true) (hp:js p=true) (hr:0≤prio∧prio≤7) (hF:aD q.res a=true) (hW:ap q p=none) (hl:aq q.holds p≠⟨0,0⟩∨q.holds.length+q.waits.length<8):(bK q p a prio).2.2=0:=by
 have hd:=aK hS
 unfold bK
 rw [hS,hp,hF,hW,decide_eq_true hr.1,decide_eq_true hr.2]
 simp only [Bool.not_true,Bool.and_self,cond_false,Option.isSome_none]
 cases hC:bb q.res (aq q.holds p) a with
 | true=>rfl
 | false =>
  simp only [cond_false]
  cases hZ:aG (aq q.holds p) with
  | false=>rfl
  | true =>
   have h0:aq q.holds p=⟨0,0⟩:=of_decide_eq_true hZ
   have hl':q.holds.length+q.waits.length<8:=by
    rcases hl with hl|hl
    ·exact absurd h0 hl
    ·exact hl
   obtain ⟨e1,_⟩:=oT hd hW hF hp hr hl'
   rw [decide_eq_false (show ¬8≤q.holds.length+q.waits.length by omega),e1]
   rfl
structure ClOut (q q':Qu) (p:Pr) (a:Am) (prio:Int):Prop where
 out:Out q q' p
 own:(bb q.res (aq q.holds p) a=true∧q'=q)∨(bb q.res (aq q.holds p) a=false∧((aq q'.holds p=aq q.holds p∧ap q' p=some (bB q.res (aq q.holds p) a))∨(aq q'.holds p=bB q.res (aq q.holds p) a∧ap q' p=none)))
 pr:∀x∈q'.waits,x.proc=p→x.prio=prio
theorem xF {q:Qu} {p:Pr} {a:Am} {prio:Int} (h:(bK q p a prio).2.2=0):ClOut q (bK q p a prio).1 p a prio:=by
 have ho:=xD h
 obtain ⟨hS,hvp,hr,hF,hW,hc⟩:=tR h
 have hd:=aK hS
 have hno:=dI.1 hW
 rcases hc with ⟨hC,e⟩|⟨hC,h0,e⟩|⟨hC,h0,hl,hv,e⟩
 ·rw [e] at ho ⊢
  exact ⟨ho,.inl ⟨hC,rfl⟩,fun x hx hp=>absurd hp (hno x (by have h:x∈q.waits:=hx;simp [h]))⟩
 ·rw [e] at ho ⊢
  have hs:=hd.cons h0 hW hF hC
  refine ⟨ho,.inr ⟨hC,?_⟩,fun x hx hp=>?_⟩
  ·have hw:ap { q with convs:=q.convs++[⟨p,bB q.res (aq q.holds p) a,0,0⟩] } p=some (bB q.res (aq q.holds p) a):=by
    unfold ap
    have hm:(⟨p,bB q.res (aq q.holds p) a,0,0⟩:Wt)∈q.convs++[⟨p,bB q.res (aq q.holds p) a,0,0⟩]++q.waits:=by simp
    exact pV (x:=⟨p,bB q.res (aq q.holds p) a,0,0⟩) hs.nd hm
   rcases oS hs p with ⟨h1,h2⟩|⟨b,h1,h2,h3⟩
   ·exact .inl ⟨h1,h2.trans hw⟩
   ·rw [hw] at h1
    injection h1 with h1
    exact .inr ⟨h2.trans h1.symm,h3⟩
  ·have h1:=nu hx
   exact absurd hp (hno x (by have h:x∈q.waits:=h1;simp [h]))
 ·rw [e] at ho ⊢
  have hs:=hd.ins (w:=⟨p,a,prio,0⟩) h0 hW hF hv hl
  have hJ:bB q.res (aq q.holds p) a=a:=by rw [h0];exact pZ hF
  refine ⟨ho,.inr ⟨hC,?_⟩,fun x hx hp=>?_⟩
  ·rw [hJ]
   have hw:ap { q with waits:=im q.waits ⟨p,a,prio,0⟩ } p=some a:=by
    unfold ap
    have hm:(⟨p,a,prio,0⟩:Wt)∈q.convs++im q.waits ⟨p,a,prio,0⟩:=by
     rw [List.mem_append]
     right
     unfold im
     simp
    exact pV (x:=⟨p,a,prio,0⟩) hs.nd hm
   rcases oS hs p with ⟨h1,h2⟩|⟨b,h1,h2,h3⟩
   ·exact .inl ⟨h1,h2.trans hw⟩
   ·rw [hw] at h1
    injection h1 with h1
    exact .inr ⟨h2.trans h1.symm,h3⟩
  ·rcases pU (nu hx) with rfl|h1|⟨y,h1,rfl,_,_⟩
   ·rfl
   ·exact absurd hp (hno x (by simp [h1]))
   ·exact absurd (show y.proc=p from hp) (hno y (by simp [h1]))
theorem rn {q:Qu} {p:Pr} (h:(bq q p).2.2=0):ax q=true∧(ap q p).isSome=true∧bq q p=iL (dE { q with convs:=b7 q.convs p,waits:=b7 q.waits p }):=by
 unfold bq at h ⊢
 cases hS:ax q with
 | false=>rw [hS] at h;simp [bW] at h
 | true =>
  rw [hS] at h
  simp only [Bool.not_true,cond_false] at h ⊢
  cases hW:(ap q p).isSome with
  | false=>rw [hW] at h;simp [bW] at h
  | true=>exact ⟨by trivial,by trivial,by trivial⟩
theorem tS {q:Qu} {p:Pr} (hS:ax q=true) (hW:(ap q p).isSome=true):(bq q p).2.2=0:=by unfold bq;rw [hS,hW];rfl
theorem i4 {r:Qu} {p:Pr} (hs:Sd r) (hw:ap r p=none):aq (dE r).1.holds p=aq r.holds p∧ap (dE r).1 p=none:=by
 rcases oS hs p with ⟨h1,h2⟩|⟨b,h1,_⟩
 ·exact ⟨h1,h2.trans hw⟩
 ·rw [hw] at h1;cases h1
theorem vV {q:Qu} {p:Pr} (h:(bq q p).2.2=0):Out q (bq q p).1 p∧aq (bq q p).1.holds p=aq q.holds p∧ap (bq q p).1 p=none:=by
 have ho:=vP h
 obtain ⟨hS,_,e⟩:=rn h
 have hd:=aK hS
 rw [e] at ho ⊢
 exact ⟨ho,i4 (hd.drop p) (by rw [iZ,if_pos rfl])⟩
theorem tT {q:Qu} {p:Pr} {a:Am} (h:(bC q p a).2.2=0):ax q=true∧aq q.holds p≠⟨0,0⟩∧ap q p=none∧bb q.res (aq q.holds p) a=true∧((aq q.holds p=a∧bC q p a=iL (q,[]))∨(aq q.holds p≠a∧bC q p a=iL (dE { q with holds:=b9 q.holds p a }))):=by
 unfold bC at h ⊢
 cases hS:ax q with
 | false=>rw [hS] at h;simp [bW] at h
 | true =>
  rw [hS] at h
  simp only [Bool.not_true,cond_false] at h ⊢
  cases hZ:aG (aq q.holds p) with
  | true=>rw [hZ] at h;simp [bW] at h
  | false =>
   rw [hZ] at h
   simp only [cond_false] at h ⊢
   cases hW:ap q p with
   | some b=>rw [hW] at h;simp [bW] at h
   | none =>
    rw [hW] at h
    simp only [Option.isSome_none,cond_false] at h ⊢
    cases hC:bb q.res (aq q.holds p) a with
    | false=>rw [hC] at h;simp [bW] at h
    | true =>
     simp only [Bool.not_true,cond_false]
     refine ⟨trivial,bo.1 hZ,trivial,trivial,?_⟩
     by_cases hE:aq q.holds p=a
     ·rw [decide_eq_true hE]
      exact .inl ⟨hE,rfl⟩
     ·rw [decide_eq_false hE]
      exact .inr ⟨hE,rfl⟩
theorem vW {q:Qu} {p:Pr} {a:Am} (hS:ax q=true) (h0:aq q.holds p≠⟨0,0⟩) (hW:ap q p=none) (hC:bb q.res (aq q.holds p) a=true):(bC q p a).2.2=0:=by
 unfold bC
 rw [hS,bo.2 h0,hW,hC]
 simp only [Bool.not_true,cond_false,Option.isSome_none]
 cases decide (aq q.holds p=a) <;> rfl
theorem xG {q:Qu} {p:Pr} {a:Am} (h:(bC q p a).2.2=0):Out q (bC q p a).1 p∧aq (bC q p a).1.holds p=a∧ap (bC q p a).1 p=none:=by
 have ho:=xE h
 obtain ⟨hS,h0,hW,hC,hc⟩:=tT h
 have hd:=aK hS
 rcases hc with ⟨hE,e⟩|⟨_,e⟩
 ·rw [e] at ho ⊢
  exact ⟨ho,hE,hW⟩
 ·rw [e] at ho ⊢
  have h1:=i4 (hd.lower hW h0 hC) (p:=p) hW
  refine ⟨ho,h1.1.trans ?_,h1.2⟩
  show aq (b9 q.holds p a) p=a
  rw [eE,if_pos rfl]
theorem ro {q:Qu} {p:Pr} (h:(ba q p).2.2=0):ax q=true∧fu q p=true∧ba q p=iL (dE { q with holds:=b9 q.holds p ⟨0,0⟩,convs:=b7 q.convs p,waits:=b7 q.waits p }):=by
 unfold ba at h ⊢
 cases hS:ax q with
 | false=>rw [hS] at h;simp [bW] at h
 | true =>
  rw [hS] at h
  simp only [Bool.not_true,cond_false] at h ⊢
  cases hH:fu q p with
  | false=>rw [hH] at h;simp [bW] at h
  | true=>exact ⟨by trivial,by trivial,by trivial⟩
theorem tU {q:Qu} {p:Pr} (hS:ax q=true) (hH:fu q p=true):(ba q p).2.2=0:=by unfold ba;rw [hS,hH];rfl
theorem vX {q:Qu} {p:Pr} (h:(ba q p).2.2=0):Out q (ba q p).1 p∧aq (ba q p).1.holds p=⟨0,0⟩∧ap (ba q p).1 p=none:=by
 have ho:=vQ h
 obtain ⟨hS,_,e⟩:=ro h
 have hd:=aK hS
 rw [e] at ho ⊢
 have hw:ap { q with holds:=b9 q.holds p ⟨0,0⟩,convs:=b7 q.convs p,waits:=b7 q.waits p } p=none:=by
  have:=iZ q p p
  rw [if_pos rfl] at this
  exact this
 have h1:=i4 (hd.gone p) hw
 refine ⟨ho,h1.1.trans ?_,h1.2⟩
 show aq (b9 q.holds p ⟨0,0⟩) p=_
 rw [eE,if_pos rfl]
structure Ev where
 kind:Int
 proc:Pr
 name:ByteArray
 am:Am
deriving DecidableEq
def aV (n:ByteArray) (l:List Ho):List Ev:=l.map fun h=>⟨1,h.proc,n,h.am⟩
def eR (e:Int):List Qu×List Ev×Int:=([],[],e)
def ic (t:List Qu) (n:ByteArray):Nat:=(bi n 0 t).toNat
def bJ (t:List Qu) (p:Pr) (a:Tm) (prio:Int):List Qu×List Ev×Int :=
 bif !df t then eR 2 else bif decide (bi a.name 0 t<0) then eR 10 else
 bif decide ((aF t).length=8) && !decide (p∈aF t) then eR 4 else
 bif !decide ((bK (t.getD (ic t a.name) jh) p a.am prio).2.2=0) then eR (bK (t.getD (ic t a.name) jh) p a.am prio).2.2 else
 (t.set (ic t a.name) (bK (t.getD (ic t a.name) jh) p a.am prio).1,aV a.name (bK (t.getD (ic t a.name) jh) p a.am prio).2.1,0)
def bM (t:List Qu) (p:Pr) (n:ByteArray):List Qu×List Ev×Int :=
 bif !df t then eR 2 else bif decide (bi n 0 t<0) then eR 10 else
 bif !decide ((bq (t.getD (ic t n) jh) p).2.2=0) then eR (bq (t.getD (ic t n) jh) p).2.2 else
 (t.set (ic t n) (bq (t.getD (ic t n) jh) p).1,aV n (bq (t.getD (ic t n) jh) p).2.1,0)
def cy (t:List Qu) (p:Pr) (a:Tm):List Qu×List Ev×Int :=
 bif !df t then eR 2 else bif decide (bi a.name 0 t<0) then eR 10 else
 bif !decide ((bC (t.getD (ic t a.name) jh) p a.am).2.2=0) then eR (bC (t.getD (ic t a.name) jh) p a.am).2.2 else
 (t.set (ic t a.name) (bC (t.getD (ic t a.name) jh) p a.am).1,(bif decide (aq (t.getD (ic t a.name) jh).holds p=a.am) then [] else [⟨3,p,a.name,a.am⟩])++aV a.name (bC (t.getD (ic t a.name) jh) p a.am).2.1,0)
def aW (p:Pr):List Qu→List Qu×List Ev
 | []=>([],[])
 | q :: l=>bif !fu q p then (q :: (aW p l).1,(aW p l).2) else
  ((ba q p).1 :: (aW p l).1,(bif aG (aq q.holds p) then [] else [⟨3,p,q.res.name,⟨0,0⟩⟩])++aV (ba q p).1.res.name (ba q p).2.1++(aW p l).2)
def cf (t:List Qu) (p:Pr):List Qu×List Ev:=bif !df t then ([],[]) else aW p t
end Go.Proofs.YtjndcdcbjidocaaGreatDoor
