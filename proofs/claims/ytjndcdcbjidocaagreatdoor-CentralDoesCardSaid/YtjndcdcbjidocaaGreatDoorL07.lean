/- Part 7 of 33 of the proof of centralDoes_holds (no condition). -/
import Derived.Test.YtjndcdcbjidocaaGreatDoorL06
set_option linter.unusedVariables false
set_option linter.unusedSimpArgs false
set_option maxRecDepth 100000
set_option maxHeartbeats 64000000
namespace Go.Proofs.YtjndcdcbjidocaaGreatDoor
open Go.RowKit
theorem ld {p:Pr}:∀{l:List Wt} {k:Nat},(∀x∈l,x.proc≠p)→gE p k l = -1
 | [],_,_=>rfl
 | x :: l,k,h=>by
  rw [ez,decide_eq_false (h x (by simp)),cond_false];exact ld fun y hy=>h y (by simp [hy])
theorem px {p:Pr}:∀{l:List Wt} {k:Nat},(∃x∈l,x.proc=p)→(k:Int)≤gE p k l∧gE p k l<(k:Int)+l.length
 | [],_,h=>by obtain ⟨_,h,_⟩:=h;cases h
 | x :: l,k,h=>by
  rw [ez];by_cases hx:x.proc=p
  ·rw [decide_eq_true hx,cond_true,List.length_cons];omega
  ·rw [decide_eq_false hx,cond_false,List.length_cons];have h2:∃y∈l,y.proc=p:=by
    obtain ⟨y,hy,e⟩:=h;rcases List.mem_cons.1 hy with rfl|hy
    ·exact absurd e hx
    ·exact ⟨y,hy,e⟩
   have:=px (k:=k+1) h2;omega
theorem Bn {l:List Wt} {p:Pr}:dG l p<0↔∀x∈l,x.proc≠p:=by
 constructor
 ·intro h x hx e;have:=(px (k:=0) ⟨x,hx,e⟩).1;unfold dG at h;omega
 ·intro h;unfold dG;rw [ld h];omega
theorem qW:∀(l:List Wt) (k:Nat) (all:List Wt) (pre:List Wt),all=pre++l→k=pre.length→(bW pre).Nodup→((∀j (h:j<l.length),dG all l[j].proc=((k+j:Nat):Int))↔(bW all).Nodup)
 | [],k,all,pre,hall,_,hp=>by
  subst hall;simpa using hp
 | x :: l,k,all,pre,hall,hk,hp=>by
  have hx:dG all x.proc=(k:Int)↔∀y∈pre,y.proc≠x.proc:=by
   have gen:∀(pre:List Wt) (k0:Nat),gE x.proc k0 (pre++x :: l)=((k0+pre.length:Nat):Int)↔∀y∈pre,y.proc≠x.proc:=by
    intro pre;induction pre with
    | nil=>intro k0;simp [ez]
    | cons y pre ih =>
     intro k0;rw [List.cons_append,ez,List.length_cons];by_cases hy:y.proc=x.proc
     ·rw [decide_eq_true hy,cond_true];constructor
      ·intro h;omega
      ·intro h;exact absurd hy (h y (by simp))
     ·rw [decide_eq_false hy,cond_false];have h1:=ih (k0+1);have e1:((k0+(pre.length+1):Nat):Int)=((k0+1+pre.length:Nat):Int):=by omega
      rw [e1,h1];constructor
      ·intro h z hz;rcases List.mem_cons.1 hz with rfl|hz
       ·exact hy
       ·exact h z hz
      ·intro h z hz;exact h z (by simp [hz])
   rw [hall,hk];have:=gen pre 0
   rwa [Nat.zero_add] at this
  have ih:=fun hp2=>qW l (k+1) all (pre++[x]) (by rw [hall];simp) (by simp [hk]) hp2;have hpx:(bW (pre++[x])).Nodup↔∀y∈pre,y.proc≠x.proc:=by
   unfold bW at hp ⊢;rw [List.map_append,List.nodup_append];constructor
   ·rintro ⟨_,_,h⟩ y hy;exact h y.proc (List.mem_map.2 ⟨y,hy,rfl⟩) x.proc (by simp)
   ·intro h;refine ⟨hp,by simp,?_⟩;intro a ha b hb;obtain ⟨y,hy,rfl⟩:=List.mem_map.1 ha;simp at hb;subst hb;exact h y hy
  constructor
  ·intro h;have h0:dG all x.proc=(k:Int):=by have:=h 0 (by simp);simpa using this
   refine (ih (hpx.2 (hx.1 h0))).1 fun j hj=>?_;have:=h (j+1) (by simp;omega);simp only [List.getElem_cons_succ] at this;rw [this];omega
  ·intro h j hj;have h1:(bW (pre++[x])).Nodup:=by
    have e:bW all=bW (pre++[x])++bW l:=by rw [hall];simp [bW]
    rw [e] at h;exact (List.nodup_append.1 h).1
   cases j with
   | zero=>simpa using hx.2 (hpx.1 h1)
   | succ j =>
    have:=(ih h1).2 h j (by simp at hj;omega);simp only [List.getElem_cons_succ];rw [this];omega
theorem py (l:List Wt):(∀j (h:j<l.length),dG l l[j].proc=((j:Nat):Int))↔(bW l).Nodup:=by
 have:=qW l 0 l [] rfl rfl (by simp [bW]);simpa using this
theorem wD (all:List Wt):∀(l:List Wt) (k:Nat),uy all k l=true↔(∀x∈l,pf x=true)∧∀j (h:j<l.length),dG all l[j].proc=((k+j:Nat):Int)
 | [],k=>by simp [uy]
 | x :: l,k=>by
  rw [lM];simp only [Bool.and_eq_true,decide_eq_true_eq,wD all l];constructor
  ·rintro ⟨⟨h1,h2⟩,h3,h4⟩;refine ⟨?_,?_⟩
   ·intro y hy;rcases List.mem_cons.1 hy with rfl|hy
    ·exact h1
    ·exact h3 y hy
   ·intro j hj;cases j with
    | zero=>simpa using h2
    | succ j =>
     have:=h4 j (by simp at hj;omega);simp only [List.getElem_cons_succ];rw [this];omega
  ·rintro ⟨h1,h2⟩;refine ⟨⟨h1 x (by simp),by have:=h2 0 (by simp);simpa using this⟩,fun y hy=>h1 y (by simp [hy]),fun j hj=>?_⟩;have:=h2 (j+1) (by simp;omega);simp only [List.getElem_cons_succ] at this;rw [this];omega
theorem tC {l:List Wt}:d9 l=true↔l.length≤8∧(∀x∈l,pf x=true)∧(bW l).Nodup:=by
 unfold d9;simp only [Bool.and_eq_true,decide_eq_true_eq,wD,Nat.zero_add,py]
structure CvOk (r:Rs) (hs:List Ho) (x:Wt):Prop where
 held:ao hs x.proc≠⟨0,0⟩
 fit:aF r x.am=true
 cov:bg r x.am (ao hs x.proc)=true
 ne:x.am≠ao hs x.proc
 prio:x.prio=0
 passed:x.passed=0
theorem bl {a:Am}:aH a=false↔a≠⟨0,0⟩:=by unfold aH;simp
theorem wE (q:Qu):∀(l:List Wt) (k:Nat),uz q k l=true↔(∀x∈l,CvOk q.res q.holds x)∧∀j (h:j<l.length),dG q.convs l[j].proc=((k+j:Nat):Int)
 | [],k=>by simp [uz]
 | x :: l,k=>by
  rw [oh,Bool.and_eq_true,wE q l];have h0:AO q k x=true↔CvOk q.res q.holds x∧dG q.convs x.proc=(k:Int):=by
   unfold AO;simp only [Bool.and_eq_true,decide_eq_true_eq,Bool.not_eq_true',bl,decide_eq_false_iff_not];constructor
   ·rintro ⟨⟨⟨⟨⟨⟨h1,h2⟩,h3⟩,h4⟩,h5⟩,h6⟩,h7⟩;exact ⟨⟨h2,h3,h4,h5,h6,h7⟩,h1⟩
   ·rintro ⟨⟨h2,h3,h4,h5,h6,h7⟩,h1⟩;exact ⟨⟨⟨⟨⟨⟨h1,h2⟩,h3⟩,h4⟩,h5⟩,h6⟩,h7⟩
  rw [h0];constructor
  ·rintro ⟨⟨h1,h2⟩,h3,h4⟩;refine ⟨?_,?_⟩
   ·intro y hy;rcases List.mem_cons.1 hy with rfl|hy
    ·exact h1
    ·exact h3 y hy
   ·intro j hj;cases j with
    | zero=>simpa using h2
    | succ j =>
     have:=h4 j (by simp at hj;omega);simp only [List.getElem_cons_succ];rw [this];omega
  ·rintro ⟨h1,h2⟩;refine ⟨⟨h1 x (by simp),by have:=h2 0 (by simp);simpa using this⟩,fun y hy=>h1 y (by simp [hy]),fun j hj=>?_⟩;have:=h2 (j+1) (by simp;omega);simp only [List.getElem_cons_succ] at this;rw [this];omega
theorem wF (q:Qu):∀l:List Wt,sG q l=true↔∀x∈l,aF q.res x.am=true∧ao q.holds x.proc=⟨0,0⟩
 | []=>by simp [sG]
 | x :: l=>by
  rw [ol];simp only [Bool.and_eq_true,wF q l];have hz:aH (ao q.holds x.proc)=true↔ao q.holds x.proc=⟨0,0⟩:=by unfold aH;simp
  rw [hz];constructor
  ·rintro ⟨⟨h1,h2⟩,h3⟩ y hy;rcases List.mem_cons.1 hy with rfl|hy
   ·exact ⟨h1,h2⟩
   ·exact h3 y hy
  ·intro h;exact ⟨h x (by simp),fun y hy=>h y (by simp [hy])⟩
structure Sd (q:Qu):Prop where
 res:mm q.res=true
 hv:Hv q.res q.holds
 clen:q.convs.length≤8
 cnd:(bW q.convs).Nodup
 cok:∀x∈q.convs,CvOk q.res q.holds x
 wlen:q.holds.length+q.waits.length≤8
 wnd:(bW q.waits).Nodup
 wok:∀x∈q.waits,pf x=true∧aF q.res x.am=true∧ao q.holds x.proc=⟨0,0⟩
 gen:0≤q.gen∧q.gen≤1073741824
theorem mN {q:Qu}:iL q=true↔Sd q:=by
 unfold iL Jl Jm;simp only [Bool.and_eq_true,decide_eq_true_eq,zF,wE,wF,tC,Nat.zero_add,py];constructor
 ·rintro ⟨⟨⟨⟨⟨h1,h2⟩,h3,h4,h5⟩,⟨⟨h6,h7,h8⟩,h9⟩,h10⟩,h11⟩,h12⟩;exact ⟨h1,h2,h3,h5,h4,h9,h8,fun x hx=>⟨h7 x hx,h10 x hx⟩,h11,h12⟩
 ·rintro ⟨h1,h2,h3,h5,h4,h9,h8,h7,h11,h12⟩;exact ⟨⟨⟨⟨⟨h1,h2⟩,h3,h4,h5⟩,⟨⟨by omega,fun x hx=>(h7 x hx).1,h8⟩,h9⟩,fun x hx=>(h7 x hx).2⟩,h11⟩,h12⟩
theorem Sd.noboth {q:Qu} (h:Sd q) {x y:Wt} (hx:x∈q.convs) (hy:y∈q.waits):x.proc≠y.proc:=fun e=>by
 have h1:=(h.cok x hx).held;rw [e,(h.wok y hy).2.2] at h1;exact h1 rfl
def gH (q:Qu) (x:Wt):Qu:=match q.convs with
 | _ :: l=>{ q with convs:=l,holds:=cr q.holds x.proc x.am }
 | []=>{ q with waits:=q.waits.tail,holds:=cr q.holds x.proc x.am }
theorem uU {l:List Ho} {p:Pr} {a:Am} (ha:(cQ l).Pairwise fT) (h0:ao l p≠⟨0,0⟩):(cr l p a).length≤l.length:=by
 obtain ⟨x,hx,hp,_⟩:=lc h0;subst hp;have hs:=(oB ha hx).length_eq;rw [List.length_cons] at hs;unfold cr;cases aH a with
 | true=>rw [cond_true];omega
 | false=>rw [cond_false,nl];omega
theorem FN {r:Rs} {l:List Ho} {p:Pr} {a:Am} (h:fW r l p a=true):Hv r (cr l p a):=by
 unfold fW at h;rw [Bool.and_eq_true] at h;exact zF.1 h.2
theorem CvOk.set {r:Rs} {hs:List Ho} {x:Wt} {p:Pr} {a:Am} (h:CvOk r hs x) (hp:x.proc≠p):CvOk r (cr hs p a) x:=by
 have e:ao (cr hs p a) x.proc=ao hs x.proc:=by rw [fb,if_neg hp]
 exact ⟨by rw [e];exact h.held,h.fit,by rw [e];exact h.cov,by rw [e];exact h.ne,h.prio,h.passed⟩
theorem Sd.pop {q:Qu} (h:Sd q) {x:Wt} (hx:dm q=some x) (hr:fW q.res q.holds x.proc x.am=true):Sd (gH q x):=by
 obtain ⟨res,hs,cs,ws,gen⟩:=q;unfold dm at hx;unfold gH;have hv:=FN hr;cases cs with
 | cons c l =>
  injection hx with hx;subst hx;have hn:(c.proc :: bW l).Nodup:=h.cnd;rw [List.nodup_cons] at hn;refine ⟨h.res,hv,by have:=h.clen;simp at this;show l.length≤8;omega,hn.2,?_,?_,h.wnd,?_,h.gen⟩
  ·intro y hy;exact (h.cok y (by simp [hy])).set fun e=>hn.1 (e▸List.mem_map.2 ⟨y,hy,rfl⟩)
  ·have h1:=uU (a:=c.am) h.hv.asc (h.cok c (by simp)).held;have h2:=h.wlen;show (cr hs c.proc c.am).length+ws.length≤8;simp only at h1 h2;omega
  ·intro y hy;refine ⟨(h.wok y hy).1,(h.wok y hy).2.1,?_⟩;show ao (cr hs c.proc c.am) y.proc=_;rw [fb,if_neg (fun e=>h.noboth (x:=c) (by simp) hy e.symm)];exact (h.wok y hy).2.2
 | nil =>
  cases ws with
  | nil=>cases hx
  | cons c l =>
   have hx':some c=some x:=hx;injection hx' with hx';subst hx';have hn:(c.proc :: bW l).Nodup:=h.wnd;rw [List.nodup_cons] at hn;refine ⟨h.res,hv,by simp,by simp [bW],fun y hy=>absurd hy (by simp),?_,hn.2,?_,h.gen⟩
   ·have h1:=Cl hs c.proc c.am;have h2:=h.wlen;show (cr hs c.proc c.am).length+l.length≤8;simp only [List.length_cons] at h2;omega
   ·intro y hy;have hy':y∈l:=hy;refine ⟨(h.wok y (by simp [hy'])).1,(h.wok y (by simp [hy'])).2.1,?_⟩;show ao (cr hs c.proc c.am) y.proc=_;rw [fb,if_neg (show ¬y.proc=c.proc from fun e=>hn.1 (e▸List.mem_map.2 ⟨y,hy',rfl⟩))];exact (h.wok y (by simp [hy'])).2.2
def eR:Nat→Qu→List Ho→Qu×List Ho
 | 0,q,acc=>(q,acc)
 | n+1,q,acc=>match dm q with
  | none=>(q,acc)
  | some x=>bif fW q.res q.holds x.proc x.am then eR n (gH q x) (acc++[⟨x.proc,x.am⟩]) else (q,acc)
def fF (q:Qu):Nat:=q.convs.length+q.waits.length
def lf (q:Qu):Qu×List Ho:=eR (fF q) q []
theorem yz {q:Qu} {x:Wt} (hx:dm q=some x):fF (gH q x)+1=fF q:=by
 obtain ⟨res,hs,cs,ws,gen⟩:=q;unfold dm at hx;unfold gH fF;cases cs with
 | cons c l=>simp;omega
 | nil =>
  cases ws with
  | nil=>cases hx
  | cons c l=>simp
theorem cW {q:Qu}:aw q=true↔Sd q∧∀x,dm q=some x→fW q.res q.holds x.proc x.am=false:=by
 unfold aw;rw [Bool.and_eq_true,mN];cases dm q with
 | none=>simp
 | some x=>simp
theorem C9 (q:Qu) (x:Wt):(gH q x).gen=q.gen∧(gH q x).res=q.res:=by
 unfold gH;cases q.convs <;> exact ⟨rfl,rfl⟩
theorem mw:∀(n:Nat) (q:Qu) (acc:List Ho),Sd q→fF q≤n→aw (eR n q acc).1=true∧(eR n q acc).1.gen=q.gen∧(eR n q acc).1.res=q.res
 | 0,q,acc,h,hn=>by
  refine ⟨cW.2 ⟨h,fun x hx=>?_⟩,rfl,rfl⟩;have:=yz (show dm q=some x from hx);omega
 | n+1,q,acc,h,hn=>by
  unfold eR;cases hx:dm q with
  | none=>exact ⟨cW.2 ⟨h,fun x hx2=>by rw [hx] at hx2;cases hx2⟩,rfl,rfl⟩
  | some x =>
   dsimp only;cases hr:fW q.res q.holds x.proc x.am with
   | false =>
    rw [cond_false];refine ⟨cW.2 ⟨h,fun y hy=>?_⟩,rfl,rfl⟩;rw [hx] at hy;injection hy with hy;subst hy;exact hr
   | true =>
    rw [cond_true];have h1:=yz hx;have h2:=mw n (gH q x) (acc++[⟨x.proc,x.am⟩]) (h.pop hx hr) (by omega);have h3:=C9 q x;exact ⟨h2.1,h2.2.1.trans h3.1,h2.2.2.trans h3.2⟩
theorem dX {q:Qu} (h:Sd q):aw (lf q).1=true∧(lf q).1.gen=q.gen∧(lf q).1.res=q.res:=mw _ q [] h (Nat.le_refl _)
def dt (q:Qu):Qu×List Ho:=({ (lf q).1 with gen:=aS q.gen },(lf q).2)
theorem nD {n:Int}:1≤aS n∧aS n≤1073741824:=by unfold aS;split <;> omega
theorem Sd.regen {q:Qu} (h:Sd q) {g:Int} (hg:0≤g∧g≤1073741824):Sd { q with gen:=g }:=⟨h.res,h.hv,h.clen,h.cnd,h.cok,h.wlen,h.wnd,h.wok,hg⟩
theorem nE {q:Qu} (h:Sd q):aw (dt q).1=true∧(dt q).1.res=q.res:=by
 have h1:=dX h;obtain ⟨h2,h3⟩:=cW.1 h1.1;refine ⟨cW.2 ⟨h2.regen (by have:=nD (n:=q.gen);omega),fun x hx=>h3 x hx⟩,h1.2.2⟩
def mO (a b:Int):Int:=bif dw 1 a && dw 1 b then 1 else bif dw 2 a && dw 2 b then 2 else bif dw 3 a && dw 3 b then 3 else bif dw 4 a && dw 4 b then 4 else bif dw 5 a && dw 5 b then 5 else 0
def bG (r:Rs) (a b:Am):Am:=bif bj r a && bj r b then (bif bg r a b then a else bif bg r b a then b else ⟨mO a.mode b.mode,0⟩) else ⟨0,0⟩
theorem Ip {h a:Int} (h1:bY h=true) (h2:bY a=true) (hc:dw h a=false) :
  bY (bif dw a h then a else mO h a)=true∧dw (bif dw a h then a else mO h a) h=true∧dw (bif dw a h then a else mO h a) a=true∧(bif dw a h then a else mO h a)≠h:=by
 unfold bY at h1 h2;simp only [Bool.and_eq_true,decide_eq_true_eq] at h1 h2;have e1:h=1∨h=2∨h=3∨h=4∨h=5:=by omega
 have e2:a=1∨a=2∨a=3∨a=4∨a=5:=by omega
 rcases e1 with rfl|rfl|rfl|rfl|rfl <;> rcases e2 with rfl|rfl|rfl|rfl|rfl <;> first|(exact absurd hc (by decide))|decide
theorem da {r:Rs} {a:Am} (h:aF r a=true):bj r a=true:=by
 have h2:=h;unfold aF at h2;unfold bj;rw [Bool.and_eq_true] at h2 ⊢;exact ⟨h2.1,by rw [h,Bool.or_true]⟩
theorem eu {r:Rs} {a:Am} (h:aF r a=true):aH a=false:=by
 rw [bl];rintro rfl;unfold aF bY at h;simp at h
theorem qX {r:Rs} {a:Am} (h:aF r a=true):bg r a a=true:=by
 have hp:=da h;have hz:=eu h;unfold bg;rw [hp,hz];unfold aF at h;by_cases hk:r.kind=1
 ·rw [if_pos hk] at h;rw [if_pos hk];simp only [Bool.and_eq_true] at h;unfold dw;simp [h.2.1]
 ·simp [hk]
theorem zG {r:Rs} {h a:Am} (h1:aF r h=true) (h2:aF r a=true) (hc:bg r h a=false) :
  aF r (bG r h a)=true∧bg r (bG r h a) h=true∧bg r (bG r h a) a=true∧bG r h a≠h:=by
 have p1:=da h1;have p2:=da h2;have z1:=eu h1;have z2:=eu h2;have hs:bc r=true:=by unfold aF at h1;rw [Bool.and_eq_true] at h1;exact h1.1
 unfold bG;rw [p1,p2,hc];simp only [Bool.and_true,cond_true,cond_false];rcases cj hs with ⟨hk,_⟩|⟨hk,_⟩
 ·obtain ⟨hm,hu⟩:=h;obtain ⟨am,au⟩:=a;have f1:=h1;have f2:=h2;unfold aF at f1 f2;rw [if_pos hk] at f1 f2;simp only [Bool.and_eq_true,decide_eq_true_eq] at f1 f2;obtain ⟨_,m1,rfl⟩:=f1;obtain ⟨_,m2,rfl⟩:=f2;have cv:∀x y:Int,bY x=true→bY y=true→bg r ⟨x,0⟩ ⟨y,0⟩=dw x y:=by
   intro x y hx hy;have ft:∀z:Int,bY z=true→aF r ⟨z,0⟩=true:=by intro z hz;unfold aF;rw [if_pos hk,hs,hz];rfl
   have p3:=da (ft x hx);have p4:=da (ft y hy);have z3:=eu (ft x hx);have z4:=eu (ft y hy);unfold bg;rw [p3,p4,z3,z4,if_pos hk];rfl
  rw [cv _ _ m1 m2] at hc;obtain ⟨s1,s2,s3,s4⟩:=Ip m1 m2 hc;rw [cv _ _ m2 m1];have e:(bif dw am hm then (⟨am,0⟩:Am) else ⟨mO hm am,0⟩)=⟨bif dw am hm then am else mO hm am,0⟩:=by cases dw am hm <;> rfl
  rw [e,cv _ _ s1 m1,cv _ _ s1 m2];refine ⟨?_,s2,s3,?_⟩
  ·unfold aF;rw [if_pos hk,hs,s1];rfl
  ·intro h;injection h with h;exact s4 h
 ·have hk1:¬r.kind=1:=by omega
  have hc2:h.units<a.units:=by
   unfold bg at hc;rw [p1,p2,z1,z2,if_neg hk1] at hc;simpa using hc
  have c2:bg r a h=true:=by
   unfold bg;rw [p1,p2,z1,z2,if_neg hk1];simp;omega
  rw [c2,cond_true];exact ⟨h2,c2,qX h2,fun e=>by rw [e] at hc2;omega⟩
def gt (x:Wt):Wt:={ x with passed:=x.passed+1 }
def iO (w:Wt) (l:List Wt):Nat→Nat
 | 0=>0
 | n+1=>match l[n]? with
  | none=>n+1
  | some x=>bif decide (x.prio<w.prio) && decide (x.passed<3) then iO w l n else n+1
def iz (l:List Wt) (w:Wt):List Wt:=l.take (iO w l l.length)++w :: (l.drop (iO w l l.length)).map gt
theorem zH (w:Wt) (l:List Wt):∀n,iO w l n≤n
 | 0=>Nat.le_refl _
 | n+1=>by
  unfold iO;cases l[n]? with
  | none=>exact Nat.le_refl _
  | some x =>
   dsimp only;cases decide (x.prio<w.prio) && decide (x.passed<3) with
   | true=>have:=zH w l n;simp only [cond_true];omega
   | false=>exact Nat.le_refl _
theorem tD (w:Wt) (l:List Wt):∀n j x,iO w l n≤j→j<n→l[j]? = some x→x.prio<w.prio∧x.passed<3
 | 0,_,_,_,h,_=>absurd h (by omega)
 | n+1,j,x,hk,hj,hx=>by
  unfold iO at hk;by_cases hjn:j=n
  ·subst hjn;rw [hx] at hk;dsimp only at hk;cases hc:decide (x.prio<w.prio) && decide (x.passed<3) with
   | true=>simpa using hc
   | false=>rw [hc] at hk;simp only [cond_false] at hk;omega
  ·cases hn:l[n]? with
   | none=>rw [hn] at hk;dsimp only at hk;omega
   | some y =>
    rw [hn] at hk;dsimp only at hk;cases hc:decide (y.prio<w.prio) && decide (y.passed<3) with
    | true=>rw [hc] at hk;exact tD w l n j x hk (by omega) hx
    | false=>rw [hc] at hk;simp only [cond_false] at hk;omega
theorem wG (l:List Wt) (w:Wt):(iz l w).length=l.length+1:=by
 unfold iz;have:=zH w l l.length;simp;omega
theorem yA (l:List Wt) (w:Wt):(bW (iz l w)).Perm (w.proc :: bW l):=by
 have e:bW (iz l w)=bW (l.take (iO w l l.length))++w.proc :: bW (l.drop (iO w l l.length)):=by
  unfold iz bW;rw [List.map_append,List.map_cons,List.map_map];rfl
 have e2:bW l=bW (l.take (iO w l l.length))++bW (l.drop (iO w l l.length)):=by
  unfold bW;rw [←List.map_append,List.take_append_drop]
 rw [e]
 conv=>rhs;rw [e2]
 exact List.perm_middle
theorem qY {l:List Wt} {w x:Wt} (hx:x∈iz l w):x=w∨x∈l∨∃y∈l,x=gt y∧y.prio<w.prio∧y.passed<3:=by
 unfold iz at hx;rcases List.mem_append.1 hx with hx|hx
 ·exact .inr (.inl (List.mem_of_mem_take hx))
 ·rcases List.mem_cons.1 hx with hx|hx
  ·exact .inl hx
  ·obtain ⟨y,hy,rfl⟩:=List.mem_map.1 hx;obtain ⟨j,hj,e⟩:=List.mem_iff_getElem.1 hy;rw [List.getElem_drop] at e;rw [List.length_drop] at hj;have h1:=tD w l l.length (iO w l l.length+j) y (by omega) (by omega) (by rw [List.getElem?_eq_getElem (by omega),e]);exact .inr (.inr ⟨y,List.mem_of_mem_drop hy,rfl,h1⟩)
theorem eh {l:List Wt} {p:Pr}:gF l p=none↔∀x∈l,x.proc≠p:=by
 induction l with
 | nil=>simp [gF]
 | cons x l ih =>
  rw [cM];by_cases hx:x.proc=p
  ·rw [decide_eq_true hx,cond_true];constructor
   ·intro h;cases h
   ·intro h;exact absurd hx (h x (by simp))
  ·rw [decide_eq_false hx,cond_false,ih];constructor
   ·intro h y hy;rcases List.mem_cons.1 hy with rfl|hy
    ·exact hx
    ·exact h y hy
   ·intro h y hy;exact h y (by simp [hy])
theorem Bo {l:List Wt} {p:Pr} {a:Am} (h:gF l p=some a):∃x∈l,x.proc=p∧x.am=a:=by
 induction l with
 | nil=>cases h
 | cons x l ih =>
  rw [cM] at h;by_cases hx:x.proc=p
  ·rw [decide_eq_true hx,cond_true] at h;injection h with h;exact ⟨x,by simp,hx,h⟩
  ·rw [decide_eq_false hx,cond_false] at h;obtain ⟨y,h1,h2⟩:=ih h;exact ⟨y,by simp [h1],h2⟩
theorem eE (l m:List Wt) (p:Pr):gF (l++m) p=match gF l p with|some a=>some a|none=>gF m p:=by
 induction l with
 | nil=>rfl
 | cons x l ih =>
  rw [List.cons_append,cM,cM];cases decide (x.proc=p) with
  | true=>rfl
  | false=>exact ih
theorem qZ {l:List Wt} {x:Wt} (hn:(bW l).Nodup) (hx:x∈l):gF l x.proc=some x.am:=by
 induction l with
 | nil=>cases hx
 | cons y l ih =>
  have hn':(y.proc :: bW l).Nodup:=hn;rw [List.nodup_cons] at hn';rw [cM];rcases List.mem_cons.1 hx with rfl|hx
  ·rw [decide_eq_true rfl];rfl
  ·have:y.proc≠x.proc:=fun e=>hn'.1 (e▸List.mem_map.2 ⟨x,hx,rfl⟩);rw [decide_eq_false this,cond_false];exact ih hn'.2 hx
theorem Sd.nd {q:Qu} (h:Sd q):(bW (q.convs++q.waits)).Nodup:=by
 unfold bW;rw [List.map_append,List.nodup_append];refine ⟨h.cnd,h.wnd,?_⟩;intro a ha b hb;obtain ⟨x,hx,rfl⟩:=List.mem_map.1 ha;obtain ⟨y,hy,rfl⟩:=List.mem_map.1 hb;exact h.noboth hx hy
theorem FP {q:Qu} (h:Sd q) {x:Wt} (hx:dm q=some x) (p:Pr):(p≠x.proc∧ao (gH q x).holds p=ao q.holds p∧ap (gH q x) p=ap q p)∨(p=x.proc∧ap q p=some x.am∧ao (gH q x).holds p=x.am∧ap (gH q x) p=none):=by
 have hn:=h.nd;obtain ⟨res,hs,cs,ws,gen⟩:=q;unfold dm at hx;unfold gH ap;cases cs with
 | cons c l =>
  injection hx with hx;subst hx;have hn':(c.proc :: bW (l++ws)).Nodup:=hn;rw [List.nodup_cons] at hn';dsimp only;rw [List.cons_append,cM,fb];by_cases hp:p=c.proc
  ·subst hp;refine .inr ⟨rfl,by rw [decide_eq_true rfl];rfl,by rw [if_pos rfl],?_⟩;rw [eh];intro y hy e;exact hn'.1 (e▸List.mem_map.2 ⟨y,hy,rfl⟩)
  ·exact .inl ⟨hp,by rw [if_neg hp],by rw [decide_eq_false (fun e=>hp e.symm)];rfl⟩
 | nil =>
  cases ws with
  | nil=>cases hx
  | cons c l =>
   have hx':some c=some x:=hx;injection hx' with hx';subst hx';have hn':(c.proc :: bW l).Nodup:=hn;rw [List.nodup_cons] at hn';dsimp only;rw [List.nil_append,List.nil_append,List.tail_cons,cM,fb];by_cases hp:p=c.proc
   ·subst hp;refine .inr ⟨rfl,by rw [decide_eq_true rfl];rfl,by rw [if_pos rfl],?_⟩;rw [eh];intro y hy e;exact hn'.1 (e▸List.mem_map.2 ⟨y,hy,rfl⟩)
   ·exact .inl ⟨hp,by rw [if_neg hp],by rw [decide_eq_false (fun e=>hp e.symm)];rfl⟩
theorem zI:∀(n:Nat) (q:Qu) (acc:List Ho),Sd q→∀p,(ao (eR n q acc).1.holds p=ao q.holds p∧ap (eR n q acc).1 p=ap q p)∨∃a,ap q p=some a∧ao (eR n q acc).1.holds p=a∧ap (eR n q acc).1 p=none
 | 0,q,acc,_,p=>.inl ⟨rfl,rfl⟩
 | n+1,q,acc,h,p=>by
  unfold eR;cases hx:dm q with
  | none=>exact .inl ⟨rfl,rfl⟩
  | some x =>
   dsimp only;cases hr:fW q.res q.holds x.proc x.am with
   | false=>exact .inl ⟨rfl,rfl⟩
   | true =>
    rw [cond_true];have h1:=zI n (gH q x) (acc++[⟨x.proc,x.am⟩]) (h.pop hx hr) p;rcases FP h hx p with ⟨_,h2,h3⟩|⟨_,h2,h3,h4⟩
    ·rw [h2,h3] at h1;exact h1
    ·rcases h1 with ⟨h5,h6⟩|⟨a,h5,_⟩
     ·exact .inr ⟨x.am,h2,h5.trans h3,h6.trans h4⟩
     ·rw [h4] at h5;cases h5
theorem tE:∀(n:Nat) (q:Qu) (acc:List Ho),∀x∈(eR n q acc).1.waits,x∈q.waits
 | 0,q,acc,x,hx=>hx
 | n+1,q,acc,x,hx=>by
  unfold eR at hx;cases hh:dm q with
  | none=>rw [hh] at hx;exact hx
  | some y =>
   rw [hh] at hx;dsimp only at hx;cases hr:fW q.res q.holds y.proc y.am with
   | false=>rw [hr] at hx;exact hx
   | true =>
    rw [hr,cond_true] at hx;have h1:=tE n (gH q y) _ x hx;unfold gH at h1;split at h1
    ·exact h1
    ·exact List.mem_of_mem_tail h1
def jW:Qu:=⟨⟨⟨#[]⟩,0,0,0⟩,[],[],[],0⟩
def bI (l:List Wt) (p:Pr):List Wt:=l.filter fun x=>!decide (x.proc=p)
theorem ii {l:List Wt} {p:Pr} {x:Wt}:x∈bI l p↔x∈l∧x.proc≠p:=by unfold bI;simp
theorem zJ {l:List Wt} (p:Pr) (h:(bW l).Nodup):(bW (bI l p)).Nodup:=h.sublist ((List.filter_sublist).map _)
theorem i3 (l:List Wt) (p:Pr):(bI l p).length≤l.length:=List.length_filter_le _ _
theorem wH (l:List Wt) (p r:Pr):gF (bI l p) r=if r=p then none else gF l r:=by
 by_cases hr:r=p
 ·rw [if_pos hr,eh];intro x hx e;exact (ii.1 hx).2 (e.trans hr)
 ·rw [if_neg hr];induction l with
  | nil=>rfl
  | cons x l ih =>
   rw [cM];unfold bI at ih ⊢;rw [List.filter_cons];by_cases hx:x.proc=p
   ·rw [decide_eq_true hx,Bool.not_true,if_neg (by simp),ih,decide_eq_false (fun e=>hr (e.symm.trans hx)),cond_false]
   ·rw [decide_eq_false hx,Bool.not_false,if_pos rfl,cM,ih]
def iP (l:List Wt) (w:Wt):Int×List Wt :=
 bif !d9 l then (2,[]) else bif !(pf w && decide (w.passed=0)) then (1,[]) else bif decide (0≤dG l w.proc) then (11,[]) else bif decide (l.length=8) then (4,[]) else (0,iz l w)
def gK (r:Qu×List Ho):Qu×List Ho×Int:=(r.1,r.2,0)
def bK (e:Int):Qu×List Ho×Int:=(jW,[],e)
def bv (q:Qu) (p:Pr) (a:Am) (prio:Int):Qu×List Ho×Int :=
 bif !aw q then bK 2 else
 bif !(jl p && decide (0≤prio) && decide (prio≤7)) then bK 1 else
 bif !aF q.res a then bK 12 else
 bif (ap q p).isSome then bK 14 else
 bif bg q.res (ao q.holds p) a then gK (q,[]) else
 bif !aH (ao q.holds p) then gK (dt { q with convs:=q.convs++[⟨p,bG q.res (ao q.holds p) a,0,0⟩] }) else
 bif decide (8≤q.holds.length+q.waits.length) then bK 4 else
 bif !decide ((iP q.waits ⟨p,a,prio,0⟩).1=0) then bK (iP q.waits ⟨p,a,prio,0⟩).1 else
 gK (dt { q with waits:=(iP q.waits ⟨p,a,prio,0⟩).2 })
def bh (q:Qu) (p:Pr):Qu×List Ho×Int :=
 bif !aw q then bK 2 else bif !(ap q p).isSome then bK 10 else gK (dt { q with convs:=bI q.convs p,waits:=bI q.waits p })
def bi (q:Qu) (p:Pr) (a:Am):Qu×List Ho×Int :=
 bif !aw q then bK 2 else bif aH (ao q.holds p) then bK 10 else bif (ap q p).isSome then bK 14 else bif !bg q.res (ao q.holds p) a then bK 12 else
 bif decide (ao q.holds p=a) then gK (q,[]) else gK (dt { q with holds:=cr q.holds p a })
def eF (q:Qu) (p:Pr):Bool:=(ap q p).isSome || !aH (ao q.holds p)
def a7 (q:Qu) (p:Pr):Qu×List Ho×Int :=
 bif !aw q then bK 2 else bif !eF q p then bK 10 else gK (dt { q with holds:=cr q.holds p ⟨0,0⟩,convs:=bI q.convs p,waits:=bI q.waits p })
theorem ij {l m:List Pr} (hn:l.Nodup) (hs:∀x∈l,x∈m):l.length≤m.length:=by
 induction l generalizing m with
 | nil=>exact Nat.zero_le _
 | cons x l ih =>
  rw [List.nodup_cons] at hn;have hx:=hs x (by simp);have h1:=ih (m:=m.erase x) hn.2 fun y hy=>(List.mem_erase_of_ne (fun (e:y=x)=>hn.1 (e▸hy))).2 (hs y (by simp [hy]));have h2:=List.length_erase_of_mem hx;have h3:=List.length_pos_of_mem hx;rw [List.length_cons];omega
theorem Sd.cons {q:Qu} (h:Sd q) {p:Pr} {a:Am} (hh:ao q.holds p≠⟨0,0⟩) (hw:ap q p=none) (hf:aF q.res a=true) (hc:bg q.res (ao q.holds p) a=false) :
  Sd { q with convs:=q.convs++[⟨p,bG q.res (ao q.holds p) a,0,0⟩] }:=by
 have hnone:=eh.1 hw;obtain ⟨x,hx,hxp,hxa⟩:=lc hh;have hfh:aF q.res (ao q.holds p)=true:=by rw [←hxa];exact (h.hv.fit x hx).2
 obtain ⟨j1,j2,j3,j4⟩:=zG hfh hf hc;have hnp:∀y∈q.convs,y.proc≠p:=fun y hy=>hnone y (by simp [hy]);have hnd:(bW (q.convs++[⟨p,bG q.res (ao q.holds p) a,0,0⟩])).Nodup:=by
  unfold bW;rw [List.map_append,List.nodup_append];refine ⟨h.cnd,by simp,?_⟩;intro u hu v hv;obtain ⟨y,hy,rfl⟩:=List.mem_map.1 hu;simp at hv;subst hv;exact hnp y hy
 have hcok:∀y∈q.convs++[⟨p,bG q.res (ao q.holds p) a,0,0⟩],CvOk q.res q.holds y:=by
  intro y hy;rcases List.mem_append.1 hy with hy|hy
  ·exact h.cok y hy
  ·rw [List.mem_singleton] at hy;subst hy;exact ⟨hh,j1,j2,j4,rfl,rfl⟩
 refine ⟨h.res,h.hv,?_,hnd,hcok,h.wlen,h.wnd,h.wok,h.gen⟩;have hsub:∀u∈bW (q.convs++[⟨p,bG q.res (ao q.holds p) a,0,0⟩]),u∈cQ q.holds:=by
  intro u hu;obtain ⟨y,hy,rfl⟩:=List.mem_map.1 hu;obtain ⟨z,hz,hzp,_⟩:=lc (hcok y hy).held;exact List.mem_map.2 ⟨z,hz,hzp⟩
 have h1:=ij hnd hsub;have h2:=h.hv.len;unfold bW cQ at h1;rw [List.length_map,List.length_map] at h1;exact Nat.le_trans h1 h2
theorem lg {r:Rs} {a:Am} (h:aF r a=true):bQ a=true:=by
 have hs:bc r=true:=by unfold aF at h;rw [Bool.and_eq_true] at h;exact h.1
 unfold aF at h;unfold bQ;rcases cj hs with ⟨hk,_⟩|⟨hk,h1,h2⟩
 ·rw [if_pos hk] at h;simp only [Bool.and_eq_true,decide_eq_true_eq] at h;simp [h.2.1,h.2.2]
 ·rw [if_neg (by omega)] at h;simp only [Bool.and_eq_true,decide_eq_true_eq] at h;simp only [Bool.or_eq_true,Bool.and_eq_true,decide_eq_true_eq];exact .inr ⟨⟨h.2.1.1,h.2.1.2⟩,by omega⟩
theorem Bp {x:Wt} (h:pf x=true):jl x.proc=true∧bQ x.am=true∧(0≤x.prio∧x.prio≤7)∧(0≤x.passed∧x.passed≤3):=by
 unfold pf at h;simp only [Bool.and_eq_true,decide_eq_true_eq] at h;exact ⟨h.1.1.1.1.1,h.1.1.1.1.2,⟨h.1.1.1.2,h.1.1.2⟩,h.1.2,h.2⟩
theorem Da {x:Wt} (h1:jl x.proc=true) (h2:bQ x.am=true) (h3:0≤x.prio∧x.prio≤7) (h4:0≤x.passed∧x.passed≤3):pf x=true:=by
 unfold pf;simp only [Bool.and_eq_true,decide_eq_true_eq];exact ⟨⟨⟨⟨⟨h1,h2⟩,h3.1⟩,h3.2⟩,h4.1⟩,h4.2⟩
theorem Sd.ins {q:Qu} (h:Sd q) {w:Wt} (hh:ao q.holds w.proc=⟨0,0⟩) (hw:ap q w.proc=none) (hf:aF q.res w.am=true) (hv:pf w=true) (hl:q.holds.length+q.waits.length<8) :
  Sd { q with waits:=iz q.waits w }:=by
 have hnone:=eh.1 hw;refine ⟨h.res,h.hv,h.clen,h.cnd,h.cok,?_,?_,?_,h.gen⟩
 ·show q.holds.length+(iz q.waits w).length≤8;rw [wG];omega
 ·refine (yA q.waits w).nodup_iff.2 (List.nodup_cons.2 ⟨?_,h.wnd⟩);intro hm;obtain ⟨y,hy,e⟩:=List.mem_map.1 hm;exact hnone y (by simp [hy]) e
 ·intro x hx;rcases qY hx with rfl|hx|⟨y,hy,rfl,h1,h2⟩
  ·exact ⟨hv,hf,hh⟩
  ·exact h.wok x hx
  ·have h3:=h.wok y hy;obtain ⟨v1,v2,v3,v4⟩:=Bp h3.1;exact ⟨Da (x:=gt y) v1 v2 v3 ⟨by show 0≤y.passed+1;omega,by show y.passed+1≤3;omega⟩,h3.2⟩
theorem Sd.drop {q:Qu} (h:Sd q) (p:Pr):Sd { q with convs:=bI q.convs p,waits:=bI q.waits p } :=
 ⟨h.res,h.hv,Nat.le_trans (i3 _ _) h.clen,zJ p h.cnd,fun x hx=>h.cok x (ii.1 hx).1,by have h1:=h.wlen;have h2:=i3 q.waits p;show q.holds.length+(bI q.waits p).length≤8;omega,zJ p h.wnd,fun x hx=>h.wok x (ii.1 hx).1,h.gen⟩
theorem Sd.lower {q:Qu} (h:Sd q) {p:Pr} {a:Am} (hw:ap q p=none) (h0:ao q.holds p≠⟨0,0⟩) (hc:bg q.res (ao q.holds p) a=true):Sd { q with holds:=cr q.holds p a }:=by
 have hnone:=eh.1 hw;obtain ⟨h1,h2⟩:=h.hv.lower hc h0;refine ⟨h.res,h1,h.clen,h.cnd,fun x hx=>(h.cok x hx).set (hnone x (by simp [hx])),?_,h.wnd,?_,h.gen⟩
 ·have:=h.wlen;show (cr q.holds p a).length+q.waits.length≤8;omega
 ·intro x hx;refine ⟨(h.wok x hx).1,(h.wok x hx).2.1,?_⟩;show ao (cr q.holds p a) x.proc=_;rw [fb,if_neg (hnone x (by simp [hx]))];exact (h.wok x hx).2.2
theorem Bq (l:List Ho) (p:Pr):cr l p ⟨0,0⟩=eN l p:=by unfold cr aH;simp
theorem Sd.gone {q:Qu} (h:Sd q) (p:Pr):Sd { q with holds:=cr q.holds p ⟨0,0⟩,convs:=bI q.convs p,waits:=bI q.waits p }:=by
 have hd:=h.drop p;rw [Bq];have hg:∀r,r≠p→ao (eN q.holds p) r=ao q.holds r:=fun r hr=>by rw [qV,if_neg hr]
 refine ⟨h.res,h.hv.fil p,hd.clen,hd.cnd,?_,?_,hd.wnd,?_,h.gen⟩
 ·intro x hx;have hx':=ii.1 hx;have h1:=h.cok x hx'.1;exact ⟨by rw [hg _ hx'.2];exact h1.held,h1.fit,by rw [hg _ hx'.2];exact h1.cov,by rw [hg _ hx'.2];exact h1.ne,h1.prio,h1.passed⟩
 ·have h1:=nk q.holds p;have h2:=hd.wlen;show (eN q.holds p).length+(bI q.waits p).length≤8;have h3:q.holds.length+(bI q.waits p).length≤8:=h2;omega
 ·intro x hx;have hx':=ii.1 hx;have h1:=h.wok x hx'.1;exact ⟨h1.1,h1.2.1,by rw [hg _ hx'.2];exact h1.2.2⟩
def Eff (q q':Qu) (p:Pr):Prop:=(ao q'.holds p=ao q.holds p∧ap q' p=ap q p)∨∃a,ap q p=some a∧ao q'.holds p=a∧ap q' p=none
theorem p7 {q:Qu} (h:Sd q) (p:Pr):Eff q (dt q).1 p:=by
 have:=zI (fF q) q [] h p;exact this
theorem oC {q:Qu} {x:Wt} (hx:x∈(dt q).1.waits):x∈q.waits:=tE (fF q) q [] x hx
theorem Eff.of {q r q':Qu} {p:Pr} (h:Eff r q' p) (h1:ao r.holds p=ao q.holds p) (h2:ap r p=ap q p):Eff q q' p:=by
 unfold Eff at *
 rw [h1,h2] at h;exact h
theorem Eff.refl (q:Qu) (p:Pr):Eff q q p:=.inl ⟨rfl,rfl⟩
structure Out (q q':Qu) (p:Pr):Prop where
 ok:aw q'=true
 res:q'.res=q.res
 eff:∀r,r≠p→Eff q q' r
 prio:∀x∈q'.waits,x.proc≠p→∃y∈q.waits,y.proc=x.proc∧y.prio=x.prio
theorem aJ {q:Qu} (h:aw q=true):Sd q:=(cW.1 h).1
theorem nF {q r:Qu} {p:Pr} (h:Sd r) (hr:r.res=q.res) (he:∀s,s≠p→ao r.holds s=ao q.holds s∧ap r s=ap q s) (hp:∀x∈r.waits,x.proc≠p→∃y∈q.waits,y.proc=x.proc∧y.prio=x.prio):Out q (dt r).1 p :=
 ⟨(nE h).1,(nE h).2.trans hr,fun s hs=>(p7 h s).of (he s hs).1 (he s hs).2,fun x hx hxp=>hp x (oC hx) hxp⟩
theorem Out.same {q:Qu} (p:Pr) (h:aw q=true):Out q q p:=⟨h,rfl,fun r _=>Eff.refl q r,fun x hx _=>⟨x,hx,rfl,rfl⟩⟩
theorem wI {q:Qu} {x:Wt} (s:Pr) (hs:s≠x.proc):ap { q with convs:=q.convs++[x] } s=ap q s:=by
 unfold ap;dsimp only;rw [eE,eE,eE];have:gF [x] s=none:=by rw [eh];intro y hy;rw [List.mem_singleton] at hy;subst hy;exact fun e=>hs e.symm
 rw [this];cases gF q.convs s <;> rfl
theorem q7:∀{l m:List Wt} {s:Pr},l.map (fun x=>(x.proc,x.am))=m.map (fun x=>(x.proc,x.am))→gF l s=gF m s
 | [],[],_,_=>rfl
 | [],_ :: _,_,h=>by simp at h
 | _ :: _,[],_,h=>by simp at h
 | x :: l,y :: m,s,h=>by
  simp only [List.map_cons,List.cons.injEq,Prod.mk.injEq] at h;rw [cM,cM,h.1.1,h.1.2,q7 h.2]
theorem Br {l:List Wt} {w:Wt} {s:Pr} (hs:s≠w.proc):gF (iz l w) s=gF l s:=by
 unfold iz;have e:∀m:List Wt,gF (m.map gt) s=gF m s:=fun m=>q7 (by rw [List.map_map];rfl);rw [eE,cM,decide_eq_false (fun h=>hs h.symm),cond_false,e]
 conv=>rhs;rw [←List.take_append_drop (iO w l l.length) l]
 rw [eE]
theorem yB {q:Qu} {w:Wt} (s:Pr) (hs:s≠w.proc):ap { q with waits:=iz q.waits w } s=ap q s:=by
 unfold ap;dsimp only;rw [eE,eE,Br hs]
theorem jB (q:Qu) (p s:Pr):ap { q with convs:=bI q.convs p,waits:=bI q.waits p } s=if s=p then none else ap q s:=by
 unfold ap;dsimp only;rw [eE,eE,wH,wH];by_cases h:s=p
 ·simp only [if_pos h]
 ·simp only [if_neg h]
theorem nG {q:Qu} (h:Sd q) {p:Pr} {a:Am} {prio:Int} (hw:ap q p=none) (hf:aF q.res a=true) (hp:jl p=true) (h1:0≤prio∧prio≤7) (hl:q.holds.length+q.waits.length<8) :
  iP q.waits ⟨p,a,prio,0⟩=(0,iz q.waits ⟨p,a,prio,0⟩)∧pf ⟨p,a,prio,0⟩=true:=by
 have hv:pf ⟨p,a,prio,0⟩=true:=Da hp (lg hf) h1 (by simp);have hln:d9 q.waits=true:=tC.2 ⟨by omega,fun x hx=>(h.wok x hx).1,h.wnd⟩;have hnone:=eh.1 hw;have hfd:dG q.waits p<0:=Bn.2 fun x hx=>hnone x (by simp [hx]);have d1:decide (0≤dG q.waits p)=false:=decide_eq_false (by omega);have d2:decide (q.waits.length=8)=false:=decide_eq_false (by omega);refine ⟨?_,hv⟩;unfold iP;rw [hln,hv];simp only [Bool.not_true,Bool.and_self,decide_true,cond_false,d1,d2]
theorem yC {q:Qu} {p:Pr} {a:Am} {prio:Int} (h:(bv q p a prio).2.2=0):Out q (bv q p a prio).1 p:=by
 unfold bv at h ⊢;cases hS:aw q with
 | false=>rw [hS] at h;simp [bK] at h
 | true =>
  have hd:=aJ hS;rw [hS] at h;simp only [Bool.not_true,cond_false] at h ⊢;cases hA:jl p && decide (0≤prio) && decide (prio≤7) with
  | false=>rw [hA] at h;simp [bK] at h
  | true =>
   rw [hA] at h;simp only [Bool.not_true,cond_false] at h ⊢;simp only [Bool.and_eq_true,decide_eq_true_eq] at hA;cases hF:aF q.res a with
   | false=>rw [hF] at h;simp [bK] at h
   | true =>
    rw [hF] at h;simp only [Bool.not_true,cond_false] at h ⊢;cases hW:ap q p with
    | some b=>rw [hW] at h;simp [bK] at h
    | none =>
     rw [hW] at h;simp only [Option.isSome_none,cond_false] at h ⊢;cases hC:bg q.res (ao q.holds p) a with
     | true=>exact Out.same p hS
     | false =>
      rw [hC] at h;simp only [cond_false] at h ⊢;cases hZ:aH (ao q.holds p) with
      | false =>
       simp only [Bool.not_false,cond_true];exact nF (hd.cons (bl.1 hZ) hW hF hC) rfl (fun s hs=>⟨rfl,wI s hs⟩) (fun x hx _=>⟨x,hx,rfl,rfl⟩)
      | true =>
       rw [hZ] at h;simp only [Bool.not_true,cond_false] at h ⊢;by_cases hl:8≤q.holds.length+q.waits.length
       ·rw [decide_eq_true hl] at h;simp [bK] at h
       ·rw [decide_eq_false hl] at h ⊢;simp only [cond_false] at h ⊢;obtain ⟨e1,hv⟩:=nG hd hW hF hA.1.1 ⟨hA.1.2,hA.2⟩ (by omega);rw [e1];simp only [decide_true,Bool.not_true,cond_false];have hz:ao q.holds p=⟨0,0⟩:=of_decide_eq_true hZ;refine nF (hd.ins hz hW hF hv (by omega)) rfl (fun s hs=>⟨rfl,yB s hs⟩) ?_;intro x hx hxp;rcases qY hx with rfl|hx|⟨y,hy,rfl,_,_⟩
        ·exact absurd rfl hxp
        ·exact ⟨x,hx,rfl,rfl⟩
        ·exact ⟨y,hy,rfl,rfl⟩
theorem wJ {q:Qu} {p:Pr} (h:(bh q p).2.2=0):Out q (bh q p).1 p:=by
 unfold bh at h ⊢;cases hS:aw q with
 | false=>rw [hS] at h;simp [bK] at h
 | true =>
  have hd:=aJ hS;rw [hS] at h;simp only [Bool.not_true,cond_false] at h ⊢;cases hW:(ap q p).isSome with
  | false=>rw [hW] at h;simp [bK] at h
  | true =>
   simp only [Bool.not_true,cond_false];exact nF (hd.drop p) rfl (fun s hs=>⟨rfl,by rw [jB,if_neg hs]⟩) (fun x hx _=>⟨x,(ii.1 hx).1,rfl,rfl⟩)
theorem yD {q:Qu} {p:Pr} {a:Am} (h:(bi q p a).2.2=0):Out q (bi q p a).1 p:=by
 unfold bi at h ⊢;cases hS:aw q with
 | false=>rw [hS] at h;simp [bK] at h
 | true =>
  have hd:=aJ hS;rw [hS] at h;simp only [Bool.not_true,cond_false] at h ⊢;cases hZ:aH (ao q.holds p) with
  | true=>rw [hZ] at h;simp [bK] at h
  | false =>
   rw [hZ] at h;simp only [cond_false] at h ⊢;cases hW:ap q p with
   | some b=>rw [hW] at h;simp [bK] at h
   | none =>
    rw [hW] at h;simp only [Option.isSome_none,cond_false] at h ⊢;cases hC:bg q.res (ao q.holds p) a with
    | false=>rw [hC] at h;simp [bK] at h
    | true =>
     simp only [Bool.not_true,cond_false];cases hE:decide (ao q.holds p=a) with
     | true=>exact Out.same p hS
     | false =>
      simp only [cond_false];exact nF (hd.lower hW (bl.1 hZ) hC) rfl (fun s hs=>⟨by show ao (cr q.holds p a) s=_;rw [fb,if_neg hs],rfl⟩) (fun x hx _=>⟨x,hx,rfl,rfl⟩)
theorem wK {q:Qu} {p:Pr} (h:(a7 q p).2.2=0):Out q (a7 q p).1 p:=by
 unfold a7 at h ⊢;cases hS:aw q with
 | false=>rw [hS] at h;simp [bK] at h
 | true =>
  have hd:=aJ hS;rw [hS] at h;simp only [Bool.not_true,cond_false] at h ⊢;cases hH:eF q p with
  | false=>rw [hH] at h;simp [bK] at h
  | true =>
   simp only [Bool.not_true,cond_false];refine nF (hd.gone p) rfl (fun s hs=>⟨by show ao (cr q.holds p ⟨0,0⟩) s=_;rw [fb,if_neg hs],?_⟩) (fun x hx _=>⟨x,(ii.1 hx).1,rfl,rfl⟩);have:=jB q p s;rw [if_neg hs] at this;exact this
theorem lh {l:List Ho} (ha:(cQ l).Pairwise fT) {x:Ho} (hx:x∈l):ao l x.proc=x.am:=by
 induction l with
 | nil=>cases hx
 | cons y l ih =>
  have ha':(y.proc :: cQ l).Pairwise fT:=ha;obtain ⟨h1,h2⟩:=List.pairwise_cons.1 ha';show (bif decide (y.proc=x.proc) then y.am else ao l x.proc)=x.am;rcases List.mem_cons.1 hx with rfl|hx
  ·rw [decide_eq_true rfl];rfl
  ·have h3:=h1 x.proc (List.mem_map.2 ⟨x,hx,rfl⟩);rw [decide_eq_false (fun (e:y.proc=x.proc)=>bH _ (e▸h3)),cond_false];exact ih h2 hx
theorem dY {q:Qu} (h:Sd q) (r:Pr):r∈fq q↔eF q r=true:=by
 unfold fq eF;rw [cN,List.mem_append,Bool.or_eq_true,Bool.not_eq_true',bl];constructor
 ·rintro (h1|h1)
  ·obtain ⟨x,hx,rfl⟩:=List.mem_map.1 h1
   right
   rw [lh h.hv.asc hx];exact bl.1 (eu (h.hv.fit x hx).2)
  ·left
   have h2:r∈bW (q.convs++q.waits):=h1;obtain ⟨x,hx,rfl⟩:=List.mem_map.1 h2;unfold ap;rw [qZ h.nd hx];rfl
 ·rintro (h1|h1)
  ·right
   obtain ⟨a,ha⟩:=Option.isSome_iff_exists.1 h1;obtain ⟨x,hx,hp,_⟩:=Bo ha;show r∈bW (q.convs++q.waits);exact List.mem_map.2 ⟨x,hx,hp⟩
  ·left
   obtain ⟨x,hx,hp,_⟩:=lc h1;exact List.mem_map.2 ⟨x,hx,hp⟩
theorem gu:∀{l:List Qu} {r:Pr},r∈ku l↔∃q∈l,r∈fq q
 | [],r=>by simp [ku]
 | q :: l,r=>by
  show r∈fq q++ku l↔_;rw [List.mem_append,gu];simp
theorem Eff.has {q q':Qu} {p:Pr} (h:Eff q q' p) (hq:eF q' p=true):eF q p=true:=by
 unfold eF at *
 rcases h with ⟨h1,h2⟩|⟨a,h1,_,_⟩
 ·rw [h1,h2] at hq;exact hq
 ·rw [h1];rfl
def du (t:List Qu):Bool:=fZ t && decide ((aC t).length≤8)
def fk (t:List Qu):List ByteArray:=t.map (·.res.name)
theorem q8:∀{l:List Qu} {p:Option ByteArray},mo p l=true→∀q∈l,aw q=true
 | [],_,_,q,hq=>absurd hq (by simp)
 | x :: l,p,h,q,hq=>by
  rw [ef] at h;simp only [Bool.and_eq_true] at h;rcases List.mem_cons.1 hq with rfl|hq
  ·exact h.1.1
  ·exact q8 h.2 q hq
theorem wL {q':Qu} (hs:aw q'=true):∀{l:List Qu} {p:Option ByteArray} {i:Nat} (h:i<l.length),mo p l=true→q'.res.name=l[i].res.name→mo p (l.set i q')=true
 | [],_,_,h,_,_=>absurd h (by simp)
 | x :: l,p,0,h,hv,hn=>by
  rw [ef] at hv;simp only [Bool.and_eq_true] at hv;have hn':q'.res.name=x.res.name:=hn;rw [List.set_cons_zero,ef,hn'];simp only [Bool.and_eq_true];exact ⟨⟨hs,hv.1.2⟩,hv.2⟩
 | x :: l,p,i+1,h,hv,hn=>by
  rw [ef] at hv;simp only [Bool.and_eq_true] at hv;rw [List.set_cons_succ,ef];simp only [Bool.and_eq_true];exact ⟨hv.1,wL hs (by simpa using h) hv.2 (by simpa using hn)⟩
def jo (a b:ByteArray):Bool:=Op.bytesLess a.toList b.toList
theorem f7 {a b c:ByteArray} (h1:jo a b=true) (h2:jo b c=true):jo a c=true:=by
 unfold jo at *
 rw [bytesLess_eq,decide_eq_true_eq] at *
 exact List.lt_trans h1 h2
theorem eG (a:ByteArray):jo a a=false:=by
 unfold jo;rw [bytesLess_eq,decide_eq_false_iff_not];exact List.lt_irrefl _
theorem lj:∀{l:List Qu} {p:Option ByteArray},mo p l=true→(fk l).Pairwise (fun a b=>jo a b=true)∧∀m,p=some m→∀n∈fk l,jo m n=true
 | [],_,_=>⟨by simp [fk],fun _ _ n hn=>absurd hn (by simp [fk])⟩
 | x :: l,p,h=>by
  rw [ef] at h;simp only [Bool.and_eq_true] at h;obtain ⟨h1,h2⟩:=lj h.2;refine ⟨List.pairwise_cons.2 ⟨fun n hn=>h2 _ rfl n hn,h1⟩,?_⟩;intro m hm n hn;subst hm;have h3:jo m x.res.name=true:=h.1.2;rcases List.mem_cons.1 (show n∈x.res.name :: fk l from hn) with rfl|hn
  ·exact h3
  ·exact f7 h3 (h2 _ rfl n hn)
theorem bf {t:List Qu} (h:du t=true):t.length≤8∧mo none t=true∧(aC t).length≤8:=by
 unfold du fZ at h;simp only [Bool.and_eq_true,decide_eq_true_eq] at h;exact ⟨h.1.1,h.1.2,h.2⟩
theorem wM {t:List Qu} (h:du t=true):(fk t).Nodup:=by
 have:=(lj (bf h).2.1).1;exact this.imp fun {a b} hab e=>by rw [e,eG] at hab;cases hab
theorem ct {t:List Qu} (h:du t=true) {q:Qu} (hq:q∈t):aw q=true:=q8 (bf h).2.1 q hq
theorem q9 {a b:ByteArray}:(a.toList == b.toList)=true↔a=b:=by
 rw [beq_iff_eq];exact ⟨toList_inj,fun h=>by rw [h]⟩
theorem wN:∀{t:List Qu} {i k:Nat} (h:i<t.length),(fk t).Nodup→bk t[i].res.name k t=((k+i:Nat):Int)
 | [],_,_,h,_=>absurd h (by simp)
 | q :: t,0,k,h,_=>by
  rw [fu];have:(q.res.name.toList == ((q :: t)[0]).res.name.toList)=true:=by simp
  rw [this];simp
 | q :: t,i+1,k,h,hn=>by
  have hn':(q.res.name :: fk t).Nodup:=hn;rw [List.nodup_cons] at hn';rw [fu];have hi:i<t.length:=by simpa using h
  have hne:(q.res.name.toList == ((q :: t)[i+1]).res.name.toList)=false:=by
   cases hc:(q.res.name.toList == ((q :: t)[i+1]).res.name.toList) with
   | false=>rfl
   | true =>
    have e:=q9.1 hc;exact absurd (e▸List.mem_map.2 ⟨t[i],List.getElem_mem hi,rfl⟩) hn'.1
  rw [hne,cond_false];have:=wN (k:=k+1) hi hn'.2;simp only [List.getElem_cons_succ];rw [this];omega
theorem jC:∀{t:List Qu} {n:ByteArray} {k:Nat},0≤bk n k t→∃i,∃h:i<t.length,bk n k t=((k+i:Nat):Int)∧t[i].res.name=n
 | [],n,k,h=>by simp [bk] at h
 | q :: t,n,k,h=>by
  rw [fu] at h ⊢;cases hc:(q.res.name.toList == n.toList) with
  | true=>exact ⟨0,by simp,by simp,q9.1 hc⟩
  | false =>
   rw [hc,cond_false] at h;rw [cond_false];obtain ⟨i,hi,h1,h2⟩:=jC h;exact ⟨i+1,by simpa using hi,by rw [h1];omega,by simpa using h2⟩
structure TOut (t t':List Qu) (i:Nat) (p:Pr):Prop where
 lt:i<t.length
 set:∃q,t'=t.set i q∧Out t[i] q p
theorem TOut.at {t t':List Qu} {i:Nat} {p:Pr} (h:TOut t t' i p):∃q,t'[i]? = some q∧Out (t[i]'h.lt) q p:=by
 obtain ⟨q,rfl,ho⟩:=h.set;exact ⟨q,by rw [List.getElem?_set_self h.lt],ho⟩
theorem TOut.other {t t':List Qu} {i:Nat} {p:Pr} (h:TOut t t' i p) {j:Nat} (hj:j≠i):t'[j]? = t[j]?:=by
 obtain ⟨q,rfl,_⟩:=h.set;rw [List.getElem?_set_ne (Ne.symm hj)]
theorem TOut.names {t t':List Qu} {i:Nat} {p:Pr} (h:TOut t t' i p):fk t'=fk t:=by
 obtain ⟨q,rfl,ho⟩:=h.set;unfold fk;rw [List.map_set];have e:q.res.name=(t[i]'h.lt).res.name:=by rw [ho.res]
 rw [e];apply List.ext_getElem
 ·simp
 ·intro j h1 h2;rw [List.getElem_set];split
  ·next hij=>subst hij;simp
  ·rfl
theorem tF {t t':List Qu} {i:Nat} {p:Pr} (hv:du t=true) (h:TOut t t' i p):∀r∈aC t',r=p∨r∈aC t:=by
 obtain ⟨q,rfl,ho⟩:=h.set;intro r hr;unfold aC at hr ⊢;rw [cN,gu] at hr ⊢;obtain ⟨x,hx,hrx⟩:=hr;rcases List.mem_or_eq_of_mem_set hx with hx|rfl
 ·exact .inr ⟨x,hx,hrx⟩
 ·by_cases hrp:r=p
  ·exact .inl hrp
  ·right
   have h1:=(dY (aJ ho.ok) r).1 hrx;have hm:t[i]'h.lt∈t:=List.getElem_mem h.lt;exact ⟨_,hm,(dY (aJ (ct hv hm)) r).2 ((ho.eff r hrp).has h1)⟩
theorem fN (t:List Qu):(aC t).Nodup:=by
 unfold List.Nodup aC;exact (iW (ku t)).imp fun {a b} (hab:fT a b) (e:a=b)=>by rw [e] at hab;exact bH b hab
theorem TOut.valid {t t':List Qu} {i:Nat} {p:Pr} (hv:du t=true) (h:TOut t t' i p) (hp:(aC t).length≤7∨p∈aC t∨p ∉ aC t'):du t'=true:=by
 have hsub:=tF hv h;obtain ⟨q,rfl,ho⟩:=h.set;obtain ⟨h1,h2,h3⟩:=bf hv;unfold du fZ;simp only [Bool.and_eq_true,decide_eq_true_eq];refine ⟨⟨by simpa using h1,wL ho.ok h.lt h2 (by rw [ho.res])⟩,?_⟩;rcases hp with hp|hp|hp
 ·have h4:=ij (m:=p :: aC t) (fN (t.set i q)) fun r hr=>by
   rcases hsub r hr with e|e
   ·simp [e]
   ·simp [e]
  rw [List.length_cons] at h4;omega
 ·have h4:=ij (m:=aC t) (fN (t.set i q)) fun r hr=>by
   rcases hsub r hr with e|e
   ·rw [e];exact hp
   ·exact e
  omega
 ·have h4:=ij (m:=aC t) (fN (t.set i q)) fun r hr=>by
   rcases hsub r hr with e|e
   ·exact absurd (e▸hr) hp
   ·exact e
  omega
theorem ra {r:Rs} {a:Am} (h:aF r a=true):bG r ⟨0,0⟩ a=a:=by
 have hs:bc r=true:=by unfold aF at h;rw [Bool.and_eq_true] at h;exact h.1
 have hp:=da h;have hz:=eu h;have p0:bj r ⟨0,0⟩=true:=by unfold bj aH;rw [hs];rfl
 have z0:aH ⟨0,0⟩=true:=rfl;have c1:bg r ⟨0,0⟩ a=false:=by unfold bg;rw [p0,hp,hz,z0];simp
 have c2:bg r a ⟨0,0⟩=true:=by unfold bg;rw [p0,hp,z0];simp
 unfold bG;rw [p0,hp,c1,c2];rfl
theorem uV {q:Qu} {p:Pr} {a:Am} {prio:Int} (h:(bv q p a prio).2.2=0):aw q=true∧jl p=true∧(0≤prio∧prio≤7)∧aF q.res a=true∧ap q p=none∧
    ((bg q.res (ao q.holds p) a=true∧bv q p a prio=gK (q,[]))∨
     (bg q.res (ao q.holds p) a=false∧ao q.holds p≠⟨0,0⟩∧bv q p a prio=gK (dt { q with convs:=q.convs++[⟨p,bG q.res (ao q.holds p) a,0,0⟩] }))∨
     (bg q.res (ao q.holds p) a=false∧ao q.holds p=⟨0,0⟩∧q.holds.length+q.waits.length<8∧pf ⟨p,a,prio,0⟩=true∧bv q p a prio=gK (dt { q with waits:=iz q.waits ⟨p,a,prio,0⟩ }))):=by
  unfold bv at h ⊢;cases hS:aw q with
  | false=>rw [hS] at h;simp [bK] at h
  | true =>
    have hd:=aJ hS;rw [hS] at h;simp only [Bool.not_true,cond_false] at h ⊢;cases hA:jl p && decide (0≤prio) && decide (prio≤7) with
    | false=>rw [hA] at h;simp [bK] at h
    | true =>
      rw [hA] at h;simp only [Bool.not_true,cond_false] at h ⊢;simp only [Bool.and_eq_true,decide_eq_true_eq] at hA;cases hF:aF q.res a with
      | false=>rw [hF] at h;simp [bK] at h
      | true =>
        rw [hF] at h;simp only [Bool.not_true,cond_false] at h ⊢;cases hW:ap q p with
        | some b=>rw [hW] at h;simp [bK] at h
        | none =>
          rw [hW] at h;simp only [Option.isSome_none,cond_false] at h ⊢;refine ⟨trivial,hA.1.1,⟨hA.1.2,hA.2⟩,trivial,trivial,?_⟩;cases hC:bg q.res (ao q.holds p) a with
          | true=>exact .inl ⟨rfl,rfl⟩
          | false =>
            rw [hC] at h;simp only [cond_false] at h ⊢
            right
            cases hZ:aH (ao q.holds p) with
            | false=>exact .inl ⟨trivial,bl.1 hZ,rfl⟩
            | true =>
              rw [hZ] at h;simp only [Bool.not_true,cond_false] at h ⊢
              right
              by_cases hl:8≤q.holds.length+q.waits.length
              · rw [decide_eq_true hl] at h;simp [bK] at h
              · rw [decide_eq_false hl] at h ⊢
                simp only [cond_false] at h ⊢;obtain ⟨e1,hv⟩:=nG hd hW hF hA.1.1 ⟨hA.1.2,hA.2⟩ (by omega);rw [e1];simp only [decide_true,Bool.not_true,cond_false];exact ⟨by trivial,of_decide_eq_true hZ,by omega,hv,by trivial⟩
theorem wO {q:Qu} {p:Pr} {a:Am} {prio:Int} (hS:aw q=true) (hp:jl p=true) (hr:0≤prio∧prio≤7) (hF:aF q.res a=true) (hW:ap q p=none) (hl:ao q.holds p≠⟨0,0⟩∨q.holds.length+q.waits.length<8):(bv q p a prio).2.2=0:=by
 have hd:=aJ hS;unfold bv;rw [hS,hp,hF,hW,decide_eq_true hr.1,decide_eq_true hr.2];simp only [Bool.not_true,Bool.and_self,cond_false,Option.isSome_none];cases hC:bg q.res (ao q.holds p) a with
 | true=>rfl
 | false =>
  simp only [cond_false];cases hZ:aH (ao q.holds p) with
  | false=>rfl
  | true =>
   have h0:ao q.holds p=⟨0,0⟩:=of_decide_eq_true hZ;have hl':q.holds.length+q.waits.length<8:=by
    rcases hl with hl|hl
    ·exact absurd h0 hl
    ·exact hl
   obtain ⟨e1,_⟩:=nG hd hW hF hp hr hl';rw [decide_eq_false (show ¬8≤q.holds.length+q.waits.length by omega),e1];rfl
structure ClOut (q q':Qu) (p:Pr) (a:Am) (prio:Int):Prop where
 out:Out q q' p
 own:(bg q.res (ao q.holds p) a=true∧q'=q)∨(bg q.res (ao q.holds p) a=false∧((ao q'.holds p=ao q.holds p∧ap q' p=some (bG q.res (ao q.holds p) a))∨(ao q'.holds p=bG q.res (ao q.holds p) a∧ap q' p=none)))
 pr:∀x∈q'.waits,x.proc=p→x.prio=prio
theorem yE {q:Qu} {p:Pr} {a:Am} {prio:Int} (h:(bv q p a prio).2.2=0):ClOut q (bv q p a prio).1 p a prio:=by
 have ho:=yC h;obtain ⟨hS,hvp,hr,hF,hW,hc⟩:=uV h;have hd:=aJ hS;have hno:=eh.1 hW;rcases hc with ⟨hC,e⟩|⟨hC,h0,e⟩|⟨hC,h0,hl,hv,e⟩
 ·rw [e] at ho ⊢;exact ⟨ho,.inl ⟨hC,rfl⟩,fun x hx hp=>absurd hp (hno x (by have h:x∈q.waits:=hx;simp [h]))⟩
 ·rw [e] at ho ⊢;have hs:=hd.cons h0 hW hF hC;refine ⟨ho,.inr ⟨hC,?_⟩,fun x hx hp=>?_⟩
  ·have hw:ap { q with convs:=q.convs++[⟨p,bG q.res (ao q.holds p) a,0,0⟩] } p=some (bG q.res (ao q.holds p) a):=by
    unfold ap;have hm:(⟨p,bG q.res (ao q.holds p) a,0,0⟩:Wt)∈q.convs++[⟨p,bG q.res (ao q.holds p) a,0,0⟩]++q.waits:=by simp
    exact qZ (x:=⟨p,bG q.res (ao q.holds p) a,0,0⟩) hs.nd hm
   rcases p7 hs p with ⟨h1,h2⟩|⟨b,h1,h2,h3⟩
   ·exact .inl ⟨h1,h2.trans hw⟩
   ·rw [hw] at h1;injection h1 with h1;exact .inr ⟨h2.trans h1.symm,h3⟩
  ·have h1:=oC hx;exact absurd hp (hno x (by have h:x∈q.waits:=h1;simp [h]))
 ·rw [e] at ho ⊢;have hs:=hd.ins (w:=⟨p,a,prio,0⟩) h0 hW hF hv hl;have hJ:bG q.res (ao q.holds p) a=a:=by rw [h0];exact ra hF
  refine ⟨ho,.inr ⟨hC,?_⟩,fun x hx hp=>?_⟩
  ·rw [hJ];have hw:ap { q with waits:=iz q.waits ⟨p,a,prio,0⟩ } p=some a:=by
    unfold ap;have hm:(⟨p,a,prio,0⟩:Wt)∈q.convs++iz q.waits ⟨p,a,prio,0⟩:=by
     rw [List.mem_append]
     right
     unfold iz;simp
    exact qZ (x:=⟨p,a,prio,0⟩) hs.nd hm
   rcases p7 hs p with ⟨h1,h2⟩|⟨b,h1,h2,h3⟩
   ·exact .inl ⟨h1,h2.trans hw⟩
   ·rw [hw] at h1;injection h1 with h1;exact .inr ⟨h2.trans h1.symm,h3⟩
  ·rcases qY (oC hx) with rfl|h1|⟨y,h1,rfl,_,_⟩
   ·rfl
   ·exact absurd hp (hno x (by simp [h1]))
   ·exact absurd (show y.proc=p from hp) (hno y (by simp [h1]))
theorem sM {q:Qu} {p:Pr} (h:(bh q p).2.2=0):aw q=true∧(ap q p).isSome=true∧bh q p=gK (dt { q with convs:=bI q.convs p,waits:=bI q.waits p }):=by
 unfold bh at h ⊢;cases hS:aw q with
 | false=>rw [hS] at h;simp [bK] at h
 | true =>
  rw [hS] at h;simp only [Bool.not_true,cond_false] at h ⊢;cases hW:(ap q p).isSome with
  | false=>rw [hW] at h;simp [bK] at h
  | true=>exact ⟨by trivial,by trivial,by trivial⟩
theorem uW {q:Qu} {p:Pr} (hS:aw q=true) (hW:(ap q p).isSome=true):(bh q p).2.2=0:=by unfold bh;rw [hS,hW];rfl
theorem jD {r:Qu} {p:Pr} (hs:Sd r) (hw:ap r p=none):ao (dt r).1.holds p=ao r.holds p∧ap (dt r).1 p=none:=by
 rcases p7 hs p with ⟨h1,h2⟩|⟨b,h1,_⟩
 ·exact ⟨h1,h2.trans hw⟩
 ·rw [hw] at h1;cases h1
theorem wP {q:Qu} {p:Pr} (h:(bh q p).2.2=0):Out q (bh q p).1 p∧ao (bh q p).1.holds p=ao q.holds p∧ap (bh q p).1 p=none:=by
 have ho:=wJ h;obtain ⟨hS,_,e⟩:=sM h;have hd:=aJ hS;rw [e] at ho ⊢;exact ⟨ho,jD (hd.drop p) (by rw [jB,if_pos rfl])⟩
theorem uX {q:Qu} {p:Pr} {a:Am} (h:(bi q p a).2.2=0):aw q=true∧ao q.holds p≠⟨0,0⟩∧ap q p=none∧bg q.res (ao q.holds p) a=true∧((ao q.holds p=a∧bi q p a=gK (q,[]))∨(ao q.holds p≠a∧bi q p a=gK (dt { q with holds:=cr q.holds p a }))):=by
 unfold bi at h ⊢;cases hS:aw q with
 | false=>rw [hS] at h;simp [bK] at h
 | true =>
  rw [hS] at h;simp only [Bool.not_true,cond_false] at h ⊢;cases hZ:aH (ao q.holds p) with
  | true=>rw [hZ] at h;simp [bK] at h
  | false =>
   rw [hZ] at h;simp only [cond_false] at h ⊢;cases hW:ap q p with
   | some b=>rw [hW] at h;simp [bK] at h
   | none =>
    rw [hW] at h;simp only [Option.isSome_none,cond_false] at h ⊢;cases hC:bg q.res (ao q.holds p) a with
    | false=>rw [hC] at h;simp [bK] at h
    | true =>
     simp only [Bool.not_true,cond_false];refine ⟨trivial,bl.1 hZ,trivial,trivial,?_⟩;by_cases hE:ao q.holds p=a
     ·rw [decide_eq_true hE];exact .inl ⟨hE,rfl⟩
     ·rw [decide_eq_false hE];exact .inr ⟨hE,rfl⟩
theorem wQ {q:Qu} {p:Pr} {a:Am} (hS:aw q=true) (h0:ao q.holds p≠⟨0,0⟩) (hW:ap q p=none) (hC:bg q.res (ao q.holds p) a=true):(bi q p a).2.2=0:=by
 unfold bi;rw [hS,bl.2 h0,hW,hC];simp only [Bool.not_true,cond_false,Option.isSome_none];cases decide (ao q.holds p=a) <;> rfl
theorem yF {q:Qu} {p:Pr} {a:Am} (h:(bi q p a).2.2=0):Out q (bi q p a).1 p∧ao (bi q p a).1.holds p=a∧ap (bi q p a).1 p=none:=by
 have ho:=yD h;obtain ⟨hS,h0,hW,hC,hc⟩:=uX h;have hd:=aJ hS;rcases hc with ⟨hE,e⟩|⟨_,e⟩
 ·rw [e] at ho ⊢;exact ⟨ho,hE,hW⟩
 ·rw [e] at ho ⊢;have h1:=jD (hd.lower hW h0 hC) (p:=p) hW;refine ⟨ho,h1.1.trans ?_,h1.2⟩;show ao (cr q.holds p a) p=a;rw [fb,if_pos rfl]
theorem sN {q:Qu} {p:Pr} (h:(a7 q p).2.2=0):aw q=true∧eF q p=true∧a7 q p=gK (dt { q with holds:=cr q.holds p ⟨0,0⟩,convs:=bI q.convs p,waits:=bI q.waits p }):=by
 unfold a7 at h ⊢;cases hS:aw q with
 | false=>rw [hS] at h;simp [bK] at h
 | true =>
  rw [hS] at h;simp only [Bool.not_true,cond_false] at h ⊢;cases hH:eF q p with
  | false=>rw [hH] at h;simp [bK] at h
  | true=>exact ⟨by trivial,by trivial,by trivial⟩
theorem uY {q:Qu} {p:Pr} (hS:aw q=true) (hH:eF q p=true):(a7 q p).2.2=0:=by unfold a7;rw [hS,hH];rfl
theorem wR {q:Qu} {p:Pr} (h:(a7 q p).2.2=0):Out q (a7 q p).1 p∧ao (a7 q p).1.holds p=⟨0,0⟩∧ap (a7 q p).1 p=none:=by
 have ho:=wK h;obtain ⟨hS,_,e⟩:=sN h;have hd:=aJ hS;rw [e] at ho ⊢;have hw:ap { q with holds:=cr q.holds p ⟨0,0⟩,convs:=bI q.convs p,waits:=bI q.waits p } p=none:=by
  have:=jB q p p;rw [if_pos rfl] at this;exact this
 have h1:=jD (hd.gone p) hw;refine ⟨ho,h1.1.trans ?_,h1.2⟩;show ao (cr q.holds p ⟨0,0⟩) p=_;rw [fb,if_pos rfl]
structure Ev where
 kind:Int
 proc:Pr
 name:ByteArray
 am:Am
deriving DecidableEq
def aE (n:ByteArray) (l:List Ho):List Ev:=l.map fun h=>⟨1,h.proc,n,h.am⟩
def dO (e:Int):List Qu×List Ev×Int:=([],[],e)
def iQ (t:List Qu) (n:ByteArray):Nat:=(bk n 0 t).toNat
def bd (t:List Qu) (p:Pr) (a:Tm) (prio:Int):List Qu×List Ev×Int :=
 bif !du t then dO 2 else bif decide (bk a.name 0 t<0) then dO 10 else
 bif decide ((aC t).length=8) && !decide (p∈aC t) then dO 4 else
 bif !decide ((bv (t.getD (iQ t a.name) jW) p a.am prio).2.2=0) then dO (bv (t.getD (iQ t a.name) jW) p a.am prio).2.2 else
 (t.set (iQ t a.name) (bv (t.getD (iQ t a.name) jW) p a.am prio).1,aE a.name (bv (t.getD (iQ t a.name) jW) p a.am prio).2.1,0)
def bq (t:List Qu) (p:Pr) (n:ByteArray):List Qu×List Ev×Int :=
 bif !du t then dO 2 else bif decide (bk n 0 t<0) then dO 10 else
 bif !decide ((bh (t.getD (iQ t n) jW) p).2.2=0) then dO (bh (t.getD (iQ t n) jW) p).2.2 else
 (t.set (iQ t n) (bh (t.getD (iQ t n) jW) p).1,aE n (bh (t.getD (iQ t n) jW) p).2.1,0)
def bJ (t:List Qu) (p:Pr) (a:Tm):List Qu×List Ev×Int :=
 bif !du t then dO 2 else bif decide (bk a.name 0 t<0) then dO 10 else
 bif !decide ((bi (t.getD (iQ t a.name) jW) p a.am).2.2=0) then dO (bi (t.getD (iQ t a.name) jW) p a.am).2.2 else
 (t.set (iQ t a.name) (bi (t.getD (iQ t a.name) jW) p a.am).1,(bif decide (ao (t.getD (iQ t a.name) jW).holds p=a.am) then [] else [⟨3,p,a.name,a.am⟩])++aE a.name (bi (t.getD (iQ t a.name) jW) p a.am).2.1,0)
def aG (p:Pr):List Qu→List Qu×List Ev
 | []=>([],[])
 | q :: l=>bif !eF q p then (q :: (aG p l).1,(aG p l).2) else
  ((a7 q p).1 :: (aG p l).1,(bif aH (ao q.holds p) then [] else [⟨3,p,q.res.name,⟨0,0⟩⟩])++aE (a7 q p).1.res.name (a7 q p).2.1++(aG p l).2)
def bR (t:List Qu) (p:Pr):List Qu×List Ev:=bif !du t then ([],[]) else aG p t
structure En where
 name:ByteArray
 before:Am
 after:Am
deriving DecidableEq
structure Sv where
 label:Int
 at_:Int
deriving DecidableEq
def ba (a b:ByteArray):Bool:=a.toList == b.toList
theorem bb {a b:ByteArray}:ba a b=true↔a=b:=q9
theorem bZ {a b:ByteArray}:ba a b=false↔a≠b:=by
 rw [←Bool.not_eq_true,bb]
def dE (n:ByteArray):Am→List En→Am
 | a,[]=>a
 | a,e :: l=>dE n (bif ba e.name n then e.after else a) l
def ax (l:List En) (n:ByteArray):Am:=dE n ⟨0,0⟩ l
theorem mP (n:ByteArray):∀(l m:List En) (a:Am),dE n a (l++m)=dE n (dE n a l) m
 | [],_,_=>rfl
 | e :: l,m,a=>mP n l m _
theorem jE (l:List En) (e:En) (n:ByteArray):ax (l++[e]) n=bif ba e.name n then e.after else ax l n:=by
 unfold ax;rw [mP];rfl
def dg (a b:Am):Bool:=bQ b && !decide (a=b) && (aH a || bQ a && (bif !decide (a.mode=0) then dw b.mode a.mode else decide (a.units<b.units)))
def fX (pre:List En):List En→Bool
 | []=>true
 | e :: l=>cK e.name.toList && decide (e.before=ax pre e.name) && dg e.before e.after && fX (pre++[e]) l
def dZ (n:ByteArray):List ByteArray→Bool
 | []=>false
 | m :: l=>ba m n || dZ n l
theorem gv {n:ByteArray}:∀{l:List ByteArray},dZ n l=true↔n∈l
 | []=>by simp [dZ]
 | m :: l=>by
  show (ba m n || dZ n l)=true↔_;rw [Bool.or_eq_true,bb,gv,List.mem_cons];exact or_congr_left ⟨Eq.symm,Eq.symm⟩
def gP (n:ByteArray):List ByteArray→List ByteArray
 | []=>[n]
 | m :: l=>bif jo n m then n :: m :: l else m :: gP n l
theorem nH {n x:ByteArray}:∀{l:List ByteArray},x∈gP n l↔x=n∨x∈l
 | []=>by simp [gP]
 | m :: l=>by
  show x∈(bif jo n m then n :: m :: l else m :: gP n l)↔_;cases jo n m with
  | true=>simp
  | false =>
   rw [cond_false,List.mem_cons,nH,List.mem_cons];constructor
   ·rintro (h|h|h) <;> simp [h]
   ·rintro (h|h|h) <;> simp [h]
def dx:List ByteArray→List En→List ByteArray
 | acc,[]=>acc
 | acc,e :: l=>dx (bif dZ e.name acc then acc else gP e.name acc) l
def bB (l:List En):List ByteArray:=dx [] l
theorem pz {x:ByteArray}:∀{l:List En} {acc:List ByteArray},x∈dx acc l↔x∈acc∨∃e∈l,e.name=x
 | [],acc=>by simp [dx]
 | e :: l,acc=>by
  show x∈dx _ l↔_;rw [pz];have h:x∈(bif dZ e.name acc then acc else gP e.name acc)↔x∈acc∨e.name=x:=by
   cases hh:dZ e.name acc with
   | true =>
    rw [cond_true];constructor
    ·exact .inl
    ·rintro (h|h)
     ·exact h
     ·exact h▸gv.1 hh
   | false =>
    rw [cond_false,nH];constructor
    ·rintro (h|h)
     ·exact .inr h.symm
     ·exact .inl h
    ·rintro (h|h)
     ·exact .inr h
     ·exact .inl h.symm
  rw [h];constructor
  ·rintro ((h|h)|⟨f,h1,h2⟩)
   ·exact .inl h
   ·exact .inr ⟨e,by simp,h⟩
   ·exact .inr ⟨f,by simp [h1],h2⟩
  ·rintro (h|⟨f,h1,h2⟩)
   ·exact .inl (.inl h)
   ·rcases List.mem_cons.1 h1 with rfl|h1
    ·exact .inl (.inr h2)
    ·exact .inr ⟨f,h1,h2⟩
theorem dh {l:List En} {x:ByteArray}:x∈bB l↔∃e∈l,e.name=x:=by unfold bB;rw [pz];simp
def mQ (l:List ByteArray):Prop:=l.Pairwise fun a b=>jo a b=true
theorem nI {a b:ByteArray} (h1:jo a b=false) (h2:a≠b):jo b a=true:=by
 unfold jo at *
 rw [bytesLess_eq,decide_eq_false_iff_not] at h1;rw [bytesLess_eq,decide_eq_true_eq];rcases Std.lt_trichotomy a.toList b.toList with h|h|h
 ·exact absurd h h1
 ·exact absurd (toList_inj h) h2
 ·exact h
theorem nJ {n:ByteArray}:∀{l:List ByteArray},mQ l→n ∉ l→mQ (gP n l)
 | [],_,_=>by simp [gP,mQ]
 | m :: l,h,hn=>by
  obtain ⟨h1,h2⟩:=List.pairwise_cons.1 h;show mQ (bif jo n m then n :: m :: l else m :: gP n l);cases hc:jo n m with
  | true =>
   refine List.pairwise_cons.2 ⟨fun x hx=>?_,h⟩;rcases List.mem_cons.1 hx with rfl|hx
   ·exact hc
   ·exact f7 hc (h1 x hx)
  | false =>
   have hm:jo m n=true:=nI hc (fun e=>hn (by simp [e]));refine List.pairwise_cons.2 ⟨fun x hx=>?_,nJ h2 (fun hx=>hn (by simp [hx]))⟩;rcases nH.1 hx with rfl|hx
   ·exact hm
   ·exact h1 x hx
theorem pA:∀{l:List En} {acc:List ByteArray},mQ acc→mQ (dx acc l)
 | [],_,h=>h
 | e :: l,acc,h=>by
  refine pA (l:=l) ?_;cases hh:dZ e.name acc with
  | true=>exact h
  | false=>exact nJ h fun hm=>by rw [gv.2 hm] at hh;cases hh
theorem fy (l:List En):mQ (bB l):=pA (by simp [mQ])
def aT (n:Int):Nat→List Sv→Int
 | _,[]=>-1
 | k,s :: l=>bif decide (s.label=n) then (k:Int) else aT n (k+1) l
def mq (all:List Sv) (n:Int):Nat→Int→List Sv→Bool
 | _,_,[]=>true
 | k,at_,s :: l=>decide (1≤s.label) && decide (s.label≤99) && decide (0≤s.at_) && decide (s.at_≤n) && decide (at_≤s.at_) && decide (aT s.label 0 all=(k:Int)) && mq all n (k+1) s.at_ l
def j5 (l:List En) (s:List Sv):Bool:=decide (l.length≤72) && decide (s.length≤4) && fX [] l && decide ((bB l).length≤8) && mq s l.length 0 0 s
structure EntOk (pre:List En) (e:En):Prop where
 nm:cK e.name.toList=true
 bef:e.before=ax pre e.name
 gr:dg e.before e.after=true
def Ents (l:List En):Prop:=∀k (h:k<l.length),EntOk (l.take k) l[k]
theorem tG:∀(l pre:List En),fX pre l=true↔∀k (h:k<l.length),EntOk (pre++l.take k) l[k]
 | [],_=>by simp [fX]
 | e :: l,pre=>by
  show (cK e.name.toList && decide (e.before=ax pre e.name) && dg e.before e.after && fX (pre++[e]) l)=true↔_;simp only [Bool.and_eq_true,decide_eq_true_eq,tG l];constructor
  ·rintro ⟨⟨⟨h1,h2⟩,h3⟩,h4⟩ k hk;cases k with
   | zero=>simpa using ⟨h1,h2,h3⟩
   | succ k =>
    have:=h4 k (by simpa using hk);simpa [List.append_assoc] using this
  ·intro h;have h0:=h 0 (by simp);simp only [List.take_zero,List.append_nil,List.getElem_cons_zero] at h0;refine ⟨⟨⟨h0.nm,h0.bef⟩,h0.gr⟩,fun k hk=>?_⟩;have:=h (k+1) (by simpa using hk);simpa [List.append_assoc] using this
theorem wS {l:List En}:fX [] l=true↔Ents l:=by
 rw [tG];unfold Ents;simp
theorem Ents.snoc {l:List En} {e:En}:Ents (l++[e])↔Ents l∧EntOk l e:=by
 constructor
 ·intro h;refine ⟨fun k hk=>?_,?_⟩
  ·have h1:=h k (by simp;omega);rw [List.take_append_of_le_length (by omega),List.getElem_append_left hk] at h1;exact h1
  ·have h1:=h l.length (by simp);simpa using h1
 ·rintro ⟨h1,h2⟩ k hk;by_cases hl:k<l.length
  ·rw [List.take_append_of_le_length (by omega),List.getElem_append_left hl];exact h1 k hl
  ·have:k=l.length:=by simp at hk;omega
   subst this;simpa using h2
theorem Ents.take {l:List En} (h:Ents l) (n:Nat):Ents (l.take n):=by
 intro k hk;have h1:k<l.length:=by rw [List.length_take] at hk;omega
 have h2:=h k h1;have h3:(l.take n).take k=l.take k:=by rw [List.take_take];congr 1;rw [List.length_take] at hk;omega
 rw [h3,List.getElem_take];exact h2
theorem nK {P:List En→Prop} (h0:P []) (hs:∀l e,Ents l→EntOk l e→P l→P (l++[e])):∀l,Ents l→P l:=by
 intro l;have:∀n (l:List En),l.length=n→Ents l→P l:=by
  intro n;induction n with
  | zero=>intro l hl _;rw [List.eq_nil_of_length_eq_zero hl];exact h0
  | succ n ih =>
   intro l hl h;have hne:l≠[]:=by rintro rfl;simp at hl
   have e:=List.dropLast_concat_getLast hne;rw [←e] at h;obtain ⟨h1,h2⟩:=Ents.snoc.1 h;rw [←e];exact hs _ _ h1 h2 (ih _ (by rw [List.length_dropLast];omega) h1)
 exact this _ l rfl
def G9 (b a:Am):Prop:=a=b∨(bQ a=true∧bQ b=true∧((a.mode≠0∧dw b.mode a.mode=true)∨(a.mode=0∧b.mode=0∧a.units<b.units)))
theorem dy {a:Am} (h:bQ a=true):(bY a.mode=true∧a.units=0)∨(a.mode=0∧1≤a.units∧a.units≤8):=by
 unfold bQ at h;simp only [Bool.or_eq_true,Bool.and_eq_true,decide_eq_true_eq] at h;rcases h with h|h
 ·exact .inl h
 ·exact .inr ⟨h.1.1,h.1.2,h.2⟩
theorem f8 {m:Int}:bY m=true↔1≤m∧m≤5:=by unfold bY;simp
theorem nL {a b:Int}:dw a b=true↔(1≤a∧a≤5)∧(1≤b∧b≤5)∧(a=b∨a=5∨b=1∨(a=4∧b≠5)):=by
 unfold dw;simp only [Bool.and_eq_true,Bool.or_eq_true,decide_eq_true_eq,Bool.not_eq_true',decide_eq_false_iff_not,f8];constructor
 ·rintro ⟨⟨h1,h2⟩,h3⟩;exact ⟨h1,h2,by rcases h3 with ((h|h)|h)|h <;> simp [h]⟩
 ·rintro ⟨h1,h2,h3⟩;exact ⟨⟨h1,h2⟩,by rcases h3 with h|h|h|h <;> simp [h]⟩
theorem nM {a b:Am} (h:dg a b=true):bQ b=true∧a≠b∧(a=⟨0,0⟩∨(bQ a=true∧G9 b a)):=by
 unfold dg at h;simp only [Bool.and_eq_true,Bool.not_eq_true',decide_eq_false_iff_not,Bool.or_eq_true] at h;obtain ⟨⟨h1,h2⟩,h3⟩:=h;refine ⟨h1,h2,?_⟩;rcases h3 with h3|⟨h3,h4⟩
 ·exact .inl (of_decide_eq_true h3)
 ·refine .inr ⟨h3,.inr ⟨h3,h1,?_⟩⟩;by_cases hm:a.mode=0
  ·rw [decide_eq_true hm,Bool.not_true,cond_false,decide_eq_true_eq] at h4;refine .inr ⟨hm,?_,h4⟩;rcases dy h1 with ⟨h5,h6⟩|⟨h5,_⟩
   ·rcases dy h3 with ⟨h7,_⟩|⟨_,h7,_⟩
    ·rw [hm] at h7;exact absurd h7 (by decide)
    ·omega
   ·exact h5
  ·rw [decide_eq_false hm,Bool.not_false,cond_true] at h4;exact .inl ⟨hm,h4⟩
theorem Bt {a b c:Am} (h1:G9 c b) (h2:G9 b a):G9 c a:=by
 rcases h1 with rfl|⟨u1,u2,h1⟩
 ·exact h2
 ·rcases h2 with rfl|⟨u3,_,h2⟩
  ·exact .inr ⟨u1,u2,h1⟩
  ·refine .inr ⟨u3,u2,?_⟩;rcases h2 with ⟨h3,h4⟩|⟨h3,h4,h5⟩
   ·rcases h1 with ⟨h6,h7⟩|⟨h6,_,_⟩
    ·refine .inl ⟨h3,?_⟩;rw [nL] at h4 h7 ⊢;omega
    ·rw [nL] at h4;omega
   ·rcases h1 with ⟨h6,_⟩|⟨_,h6,h7⟩
    ·exact absurd h4 h6
    ·exact .inr ⟨h3,h6,by omega⟩
def Db (a:Am):Int:=a.mode+a.units
theorem Dc {a b:Am} (h:dg a b=true):Db a<Db b∧Db b≤8:=by
 obtain ⟨h1,h2,h3⟩:=nM h;obtain ⟨am,au⟩:=a;obtain ⟨bm,bu⟩:=b;unfold Db;have hb:=dy h1;simp only [f8] at hb;dsimp only at *
 rcases h3 with h3|⟨h3,h4⟩
 ·injection h3 with e1 e2;subst e1;subst e2;omega
 ·have ha:=dy h3;simp only [f8] at ha;rcases h4 with h4|⟨_,_,h4⟩
  ·exact absurd h4 h2
  ·dsimp only at h4;rcases h4 with ⟨h5,h6⟩|⟨h5,h6,h7⟩
   ·rw [nL] at h6;have:¬(am=bm∧au=bu):=fun e=>h2 (by rw [e.1,e.2]);omega
   ·omega
theorem tH {l:List En} (h:Ents l) (n:ByteArray):∀k,ax (l.take k) n=⟨0,0⟩∨G9 (ax l n) (ax (l.take k) n):=by
 refine nK (P:=fun l=>∀k,ax (l.take k) n=⟨0,0⟩∨G9 (ax l n) (ax (l.take k) n)) (fun k=>.inl (by simp [ax,dE])) ?_ l h;intro l e _ he ih k;by_cases hk:k≤l.length
 ·rw [List.take_append_of_le_length hk,jE];rcases ih k with h1|h1
  ·exact .inl h1
  ·cases hn:ba e.name n with
   | false=>exact .inr h1
   | true =>
    have hnn:=bb.1 hn;subst hnn;rw [cond_true];obtain ⟨_,_,h2⟩:=nM he.gr;rw [he.bef] at h2;rcases h2 with h2|⟨_,h2⟩
    ·rw [h2] at h1;rcases h1 with h1|⟨h1,h3,_⟩
     ·exact .inl h1
     ·exact absurd h3 (by decide)
    ·exact .inr (Bt h2 h1)
 ·rw [List.take_of_length_le (by simp;omega)];exact .inr (.inl rfl)
theorem wT {l:List En} (h:Ents l) (n:ByteArray):((l.filter fun e=>ba e.name n).length:Int)≤Db (ax l n)∧Db (ax l n)≤8:=by
 refine nK (P:=fun l=>((l.filter fun e=>ba e.name n).length:Int)≤Db (ax l n)∧Db (ax l n)≤8) ⟨by simp [ax,dE,Db],by simp [ax,dE,Db]⟩ ?_ l h;intro l e _ he ih;rw [jE,List.filter_append,List.length_append];cases hn:ba e.name n with
 | false =>
  have:[e].filter (fun e=>ba e.name n)=[]:=by simp [hn]
  rw [this];simpa using ih
 | true =>
  have hnn:=bb.1 hn;subst hnn;have:[e].filter (fun x=>ba x.name e.name)=[e]:=by simp [ba]
  rw [this,cond_true];have h1:=Dc he.gr;rw [he.bef] at h1;simp only [List.length_singleton];omega
theorem rb {α:Type} (p:α→Bool):∀l:List α,l.length=(l.filter p).length+(l.filter fun x=>!p x).length
 | []=>rfl
 | x :: l=>by
  have:=rb p l;rw [List.filter_cons,List.filter_cons,List.length_cons];cases p x with
  | true=>simp;omega
  | false=>simp;omega
theorem tI:∀(ns:List ByteArray) (l:List En),(∀e∈l,e.name∈ns)→(∀n∈ns,(l.filter fun e=>ba e.name n).length≤8)→l.length≤8*ns.length
 | [],l,h,_=>by
  cases l with
  | nil=>simp
  | cons e l=>exact absurd (h e (by simp)) (by simp)
 | n :: ns,l,h,hc=>by
  have h1:=tI ns (l.filter fun e=>!ba e.name n) (fun e he=>by
   have h2:=(List.mem_filter.1 he);rcases List.mem_cons.1 (h e h2.1) with h3|h3
   ·have:=h2.2;rw [Bool.not_eq_true',bZ] at this;exact absurd h3 this
   ·exact h3) (fun m hm=>Nat.le_trans (((List.filter_sublist (p:=fun e:En=>!ba e.name n) (l:=l)).filter fun e=>ba e.name m).length_le) (hc m (by simp [hm])))
  have h2:=hc n (by simp);have h3:=rb (fun e:En=>ba e.name n) l;rw [List.length_cons];omega
theorem wU {l:List En} (h:Ents l) (hn:(bB l).length≤8):l.length≤64:=by
 have:=tI (bB l) l (fun e he=>dh.2 ⟨e,he,rfl⟩) (fun n _=>by have:=wT h n;omega);omega
end Go.Proofs.YtjndcdcbjidocaaGreatDoor
