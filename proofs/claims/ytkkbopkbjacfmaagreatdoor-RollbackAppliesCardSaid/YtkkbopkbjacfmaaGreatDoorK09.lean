/- Part K09 of a proof of statements of chapter 15 (no condition). -/
import Derived.Test.YtkkbopkbjacfmaaGreatDoorK06
import Derived.Test.YtkkbopkbjacfmaaGreatDoorK07
import Derived.Test.YtkkbopkbjacfmaaGreatDoorK02
set_option linter.unusedVariables false
set_option linter.unusedSimpArgs false
set_option maxRecDepth 100000
set_option maxHeartbeats 64000000
namespace Go.Proofs.YtkkbopkbjacfmaaGreatDoor
open Go.RowKit
section
def xk (r:Rs) (l:List Ho) (p:Pr) (a:Am):Bool:=qD r l && gm p && aH r a
def gi (r:Rs) (l:List Ho) (p:Pr) (a:Am):Bool:=xk r l p a && qD r (cE l p a)
theorem Kj {r:Rs} {l:List Ho} (h:qD r l=true):l.length<=8:=by
 unfold qD at h;simp only [qBa,decide_eq_true_eq] at h;exact h.1.1.2
theorem oP (x:Ho):∀l:List Ho,(nr x l).length=l.length+1
 | []=>rfl
 | h :: l=>by
  rw [ip];cases decide (0<bH h.proc x.proc) <;> simp [oP x l]
theorem G4 (l:List Ho) (p:Pr) (a:Am):(cE l p a).length<=l.length+1:=by
 have:=oO l p;unfold cE;cases aJ a
 ·simp [oP];omega
 ·simp;omega
variable {w v v':World} {nm:ByteArray} {kd un h x y z m u:Int}
end
def Ff (q:Qu) (k:Nat) (x:Wt):Bool:=decide (dM q.convs x.proc=(k:Int)) && !aJ (af q.holds x.proc) && aH q.res x.am && bc q.res x.am (af q.holds x.proc) && !decide (x.am=af q.holds x.proc) && decide (x.prio=0) && decide (x.passed=0)
def ui (q:Qu):Nat->List Wt->Bool
 | _,[]=>true
 | k,x :: l=>Ff q k x && ui q (k+1) l
def Fg (q:Qu):Bool:=decide (q.convs.length<=8) && ui q 0 q.convs
def tk (q:Qu):List Wt->Bool
 | []=>true
 | x :: l=>aH q.res x.am && aJ (af q.holds x.proc) && tk q l
def Fh (q:Qu):Bool:=fe q.waits && decide (q.holds.length+q.waits.length<=8) && tk q q.waits
def eD (q:Qu):Bool:=ly q.res && qD q.res q.holds && Fg q && Fh q && decide (0<=q.gen) && decide (q.gen<=1073741824)
def ai (q:Qu):Bool:=eD q && match dv q with
 | none=>true
 | some x=>!gi q.res q.holds x.proc x.am
theorem jx (q:Qu) (k:Nat) (x:Wt) (l:List Wt):ui q k (x :: l)=(Ff q k x && ui q (k+1) l):=rfl
theorem jy (q:Qu) (x:Wt) (l:List Wt):tk q (x :: l)=(aH q.res x.am && aJ (af q.holds x.proc) && tk q l):=rfl
theorem zL {q:Qu} (h:eD q=true):q.holds.length<=8:=by
 unfold eD at h;simp only [qBa] at h;exact Kj h.1.1.1.1.2
def Mp (p:Option Pr) (x:Pr):Bool:=match p with|none=>true|some y=>decide (bH y x<0)
theorem CF (r:Rs) (p:Option Pr) (x:Ho) (l:List Ho):ue r p (x :: l)=(gm x.proc && aH r x.am && Mp p x.proc && ue r (some x.proc) l):=by cases p <;> rfl
theorem DV {p:Option Pr} {x:Pr}:Mp p x=true↔∀q,p=some q->fS q x:=by
 cases p with
 | none=>simp [Mp]
 | some q=>simp [Mp,eX]
theorem Af (r:Rs):∀(l:List Ho) (p:Option Pr),ue r p l=true↔(∀x∈l,gm x.proc=true/\aH r x.am=true)/\(cL l).Pairwise fS/\∀q,p=some q->∀x∈l,fS q x.proc
 | [],p=>by simp [ue,cL]
 | x :: l,p=>by
  rw [CF];simp only [qBa,Af r l,DV];constructor
  ·rintro ⟨⟨⟨h1,h2⟩,h3⟩,h4,h5,h6⟩;refine ⟨?_,?_,?_⟩
   ·intro y hy;rcases List.mem_cons.1 hy with rfl|hy
    ·exact ⟨h1,h2⟩
    ·exact h4 y hy
   ·show (x.proc :: cL l).Pairwise fS;refine List.pairwise_cons.2 ⟨?_,h5⟩;intro y hy;obtain ⟨z,hz,rfl⟩:=List.mem_map.1 hy;exact h6 _ rfl z hz
   ·intro q hq y hy;rcases List.mem_cons.1 hy with rfl|hy
    ·exact h3 q hq
    ·exact cq (h3 q hq) (h6 _ rfl y hy)
  ·rintro ⟨h1,h2,h3⟩;have h2':(x.proc :: cL l).Pairwise fS:=h2;obtain ⟨h4,h5⟩:=List.pairwise_cons.1 h2';refine ⟨⟨h1 x (by simp),fun q hq=>h3 q hq x (by simp)⟩,fun y hy=>h1 y (by simp [hy]),h5,?_⟩;intro q hq y hy;injection hq with hq;subst hq;exact h4 _ (List.mem_map.2 ⟨y,hy,rfl⟩)
def n5:List Am->Int
 | []=>0
 | a :: l=>a.units+n5 l
def H0 (a b:Am):Bool:=aJ a || aJ b || lP a.mode b.mode
theorem H3 (a b:Am):H0 a b=H0 b a:=by
 unfold H0;rw [jw,Bool.or_comm (aJ a)]
theorem n7 {r:Rs} {a:Am} (h:bI r a=true) (hk:r.kind=2):0<=a.units:=(lS h (by omega)).2.1
theorem sI {r:Rs} (hk:r.kind=2):∀{l:List Am},(∀a∈l,bI r a=true)->0<=n5 l
 | [],_=>Int.le_refl _
 | a :: l,h=>by
  have h1:=n7 (h a (by simp)) hk;have h2:=sI hk (l:=l) fun b hb=>h b (by simp [hb]);show 0<=a.units+n5 l;omega
theorem FF (a:Am) (l:List Am):ln a l=false↔∀b∈l,H0 b a=true:=by
 unfold ln H0;rw [List.any_eq_false];constructor
 ·intro h b hb;have:=h b hb;have e:=jw b.mode a.mode;cases h1:aJ a <;> cases h2:aJ b <;> simp_all
 ·intro h b hb;have:=h b hb;have e:=jw b.mode a.mode;cases h1:aJ a <;> cases h2:aJ b <;> simp_all
theorem n8 {r:Rs}:∀(l:List Am) (s:Int) (pre:List Am),eC r s pre l=true↔(∀a∈l,bI r a=true)/\(r.kind=2->l≠[]->s+n5 l<=r.units)/\(r.kind≠2->l.Pairwise (fun a b=>H0 a b=true)/\∀a∈l,∀b∈pre,H0 b a=true)
 | [],s,pre=>by simp [eC]
 | a :: l,s,pre=>by
  rw [lR,qBa];by_cases hk:r.kind=2
  ·rw [if_pos hk,qBa,decide_eq_true_eq,n8 l];constructor
   ·rintro ⟨h1,h2,h3,h4,_⟩;refine ⟨?_,?_,fun h=>absurd hk h⟩
    ·intro b hb;rcases List.mem_cons.1 hb with rfl|hb
     ·exact h1
     ·exact h3 b hb
    ·intro _ _;show s+(a.units+n5 l)<=r.units;cases l with
     | nil=>show s+(a.units+0)<=r.units;omega
     | cons b m=>have:=h4 hk (by simp);omega
   ·rintro ⟨h1,h2,_⟩;have h3:s+(a.units+n5 l)<=r.units:=h2 hk (by simp);have h4:=sI hk (l:=l) fun b hb=>h1 b (by simp [hb]);exact ⟨h1 a (by simp),by omega,fun b hb=>h1 b (by simp [hb]),fun _ _=>by omega,fun h=>absurd hk h⟩
  ·rw [if_neg hk,qBa,n8 l,Bool.not_eq_true',FF];constructor
   ·rintro ⟨h1,h2,h3,_,h5⟩;obtain ⟨h6,h7⟩:=h5 hk;refine ⟨?_,fun h=>absurd h hk,fun _=>⟨List.pairwise_cons.2 ⟨fun b hb=>h7 b hb a (by simp),h6⟩,?_⟩⟩
    ·intro b hb;rcases List.mem_cons.1 hb with rfl|hb
     ·exact h1
     ·exact h3 b hb
    ·intro b hb c hc;rcases List.mem_cons.1 hb with rfl|hb
     ·exact h2 c hc
     ·exact h7 b hb c (by simp [hc])
   ·rintro ⟨h1,_,h3⟩;obtain ⟨h4,h5⟩:=h3 hk;obtain ⟨h6,h7⟩:=List.pairwise_cons.1 h4;refine ⟨h1 a (by simp),h5 a (by simp),fun b hb=>h1 b (by simp [hb]),fun h=>absurd h hk,fun _=>⟨h7,?_⟩⟩;intro b hb c hc;rcases List.mem_append.1 hc with hc|hc
    ·exact h5 b (by simp [hb]) c hc
    ·rw [List.mem_singleton] at hc;subst hc;exact h6 b hb
structure Comp (r:Rs) (l:List Am):Prop where
 shp:aW r=true
 prm:∀a∈l,bI r a=true
 sum:r.kind=2->n5 l<=r.units
 ok:r.kind≠2->l.Pairwise (fun a b=>H0 a b=true)
theorem FG {r:Rs} {l:List Am}:g9 r l=true↔Comp r l:=by
 unfold g9;rw [qBa,n8];constructor
 ·rintro ⟨h0,h1,h2,h3⟩;refine ⟨h0,h1,fun hk=>?_,fun hk=>(h3 hk).1⟩;cases l with
  | nil =>
   have:=cj h0;show (0:Int)<=r.units;omega
  | cons a m=>have:=h2 hk (by simp);omega
 ·rintro ⟨h0,h1,h2,h3⟩;exact ⟨h0,h1,fun hk _=>by have:=h2 hk;omega,fun hk=>⟨h3 hk,fun _ _ _ hb=>absurd hb (by simp)⟩⟩
theorem FH {l l':List Am} (h:l.Perm l'):n5 l=n5 l':=by
 induction h with
 | nil=>rfl
 | cons a _ ih=>show a.units+_=a.units+_;rw [ih]
 | swap a b l=>show b.units+(a.units+n5 l)=a.units+(b.units+n5 l);omega
 | trans _ _ h1 h2=>exact h1.trans h2
theorem Comp.perm {r:Rs} {l l':List Am} (h:Comp r l) (p:l.Perm l'):Comp r l' :=
 ⟨h.shp,fun a ha=>h.prm a (p.mem_iff.2 ha),fun hk=>by rw [<-FH p];exact h.sum hk,fun hk=>(p.pairwise_iff (fun {a b} hab=>by rw [H3];exact hab)).1 (h.ok hk)⟩
theorem Comp.tail {r:Rs} {a:Am} {l:List Am} (h:Comp r (a :: l)):Comp r l :=
 ⟨h.shp,fun b hb=>h.prm b (by simp [hb]),fun hk=>by
  have h1:a.units+n5 l<=r.units:=h.sum hk;have h2:=n7 (h.prm a (by simp)) hk;omega,fun hk=>(List.pairwise_cons.1 (h.ok hk)).2⟩
theorem FI {r:Rs} {a b c:Am} (hk:r.kind=1) (h:bc r a b=true) (ho:H0 a c=true):H0 b c=true:=by
 unfold bc at h;simp only [hk,if_true,qBa,Bool.or_eq_true,Bool.not_eq_true'] at h;unfold H0 at ho ⊢;simp only [Bool.or_eq_true] at ho ⊢;rcases h.2 with h1|⟨h1,h2⟩
 ·exact .inl (.inl h1)
 ·rcases ho with (h3|h3)|h3
  ·rw [h1] at h3;cases h3
  ·exact .inl (.inr h3)
  ·refine .inr ?_;unfold dK at h2;unfold lP at h3 ⊢;simp only [qBa,Bool.or_eq_true,Bool.not_eq_true',decide_eq_true_eq,decide_eq_false_iff_not] at h2 h3 ⊢;obtain ⟨⟨h4,h5⟩,h6⟩:=h2;obtain ⟨⟨⟨⟨h7,h8⟩,h9⟩,h10⟩,h11⟩:=h3;unfold bP at *
   simp only [qBa,decide_eq_true_eq] at *
   refine ⟨⟨⟨⟨h5,h8⟩,?_⟩,h10⟩,?_⟩ <;> omega
theorem Comp.lower {r:Rs} {a b:Am} {l:List Am} (h:Comp r (a :: l)) (hc:bc r a b=true):Comp r (b :: l):=by
 have hp:bI r b=true:=by unfold bc at hc;simp only [qBa] at hc;exact hc.1.2
 refine ⟨h.shp,?_,fun hk=>?_,fun hk=>?_⟩
 ·intro x hx;rcases List.mem_cons.1 hx with rfl|hx
  ·exact hp
  ·exact h.prm x (by simp [hx])
 ·have h1:a.units+n5 l<=r.units:=h.sum hk;have h2:=n7 (h.prm a (by simp)) hk;show b.units+n5 l<=r.units;unfold bc at hc;rw [if_neg (show ¬r.kind=1 by omega)] at hc;simp only [qBa,Bool.or_eq_true,decide_eq_true_eq] at hc;rcases hc.2 with h3|h3
  ·unfold aJ at h3;have h4:=of_decide_eq_true h3;rw [h4];show 0+n5 l<=r.units;omega
  ·omega
 ·have hk1:r.kind=1:=by have:=cj h.shp;omega
  obtain ⟨h1,h2⟩:=List.pairwise_cons.1 (h.ok hk);exact List.pairwise_cons.2 ⟨fun c hc2=>FI hk1 hc (h1 c hc2),h2⟩
theorem uR (l:List Ho) (p q:Pr):af (eW l p) q=if q=p then ⟨0,0⟩ else af l q:=by
 induction l with
 | nil=>simp [eW,af]
 | cons x l ih =>
  rw [mI];by_cases hx:x.proc=p
  ·rw [qDt hx,qCt,ih];by_cases hq:q=p
   ·rw [if_pos hq,if_pos hq]
   ·rw [if_neg hq,if_neg hq];show _=bif decide (x.proc=q) then _ else _;rw [qDf (fun e=>hq (e.symm.trans hx)),qCf]
  ·rw [qDf hx,qCf];show (bif decide (x.proc=q) then x.am else af (eW l p) q)=_;rw [ih];by_cases hq:q=p
   ·rw [if_pos hq,if_pos hq,qDf (fun e=>hx (e.trans hq)),qCf]
   ·rw [if_neg hq,if_neg hq];rfl
theorem Ag (x:Ho) (q:Pr):∀l:List Ho,(∀y∈l,y.proc≠x.proc)->af (nr x l) q=if q=x.proc then x.am else af l q
 | [],_=>by
  show (bif decide (x.proc=q) then x.am else ⟨0,0⟩)=_;by_cases h:q=x.proc
  ·rw [if_pos h,qDt h.symm];rfl
  ·rw [if_neg h,qDf (fun e=>h e.symm)];rfl
 | y :: l,hl=>by
  have hy:=hl y (by simp);rw [ip];cases decide (0<bH y.proc x.proc) with
  | true =>
   show (bif decide (x.proc=q) then x.am else af (y :: l) q)=_;by_cases h:q=x.proc
   ·rw [if_pos h,qDt h.symm];rfl
   ·rw [if_neg h,qDf (fun e=>h e.symm)];rfl
  | false =>
   show (bif decide (y.proc=q) then y.am else af (nr x l) q)=_;rw [Ag x q l fun z hz=>hl z (by simp [hz])];by_cases h:q=x.proc
   ·rw [if_pos h,if_pos h,qDf (fun e=>hy (e.trans h)),qCf]
   ·rw [if_neg h,if_neg h];rfl
theorem DX {l:List Ho} {p:Pr}:∀y∈eW l p,y.proc≠p:=by
 intro y hy;have:=(List.mem_filter.1 hy).2;simpa using this
theorem fF (l:List Ho) (p:Pr) (a:Am) (q:Pr):af (cE l p a) q=if q=p then a else af l q:=by
 unfold cE;cases hz:aJ a with
 | true =>
  rw [qCt,uR];have:a=⟨0,0⟩:=of_decide_eq_true hz;rw [this]
 | false =>
  rw [qCf,Ag ⟨p,a⟩ q _ DX];show (if q=p then a else af (eW l p) q)=_;by_cases h:q=p
  ·rw [if_pos h,if_pos h]
  ·rw [if_neg h,if_neg h,uR,if_neg h]
theorem mN (x:Ho):∀l:List Ho,(nr x l).Perm (x :: l)
 | []=>List.Perm.refl _
 | y :: l=>by
  rw [ip];cases decide (0<bH y.proc x.proc) with
  | true=>exact List.Perm.refl _
  | false=>exact ((mN x l).cons y).trans (List.Perm.swap x y l)
theorem Ah {x:Ho}:∀{l:List Ho},(cL l).Pairwise fS->(∀y∈l,y.proc≠x.proc)->(cL (nr x l)).Pairwise fS
 | [],_,_=>by simp [nr,cL]
 | y :: l,h,hn=>by
  have h':(y.proc :: cL l).Pairwise fS:=h;obtain ⟨h1,h2⟩:=List.pairwise_cons.1 h';rw [ip];have hyx:=hn y (by simp);cases hc:decide (0<bH y.proc x.proc) with
  | true =>
   have hlt:fS x.proc y.proc:=by
    rcases ig x.proc y.proc with h3|h3|h3
    ·exact h3
    ·exact absurd h3.symm hyx
    ·have:=(eX _ _).2 h3;have:=of_decide_eq_true hc;omega
   refine List.pairwise_cons.2 ⟨?_,h⟩;intro z hz;rcases List.mem_cons.1 (show z∈y.proc :: cL l from hz) with rfl|hz
   ·exact hlt
   ·exact cq hlt (h1 z hz)
  | false =>
   have hlt:fS y.proc x.proc:=by
    rcases ig x.proc y.proc with h3|h3|h3
    ·have h4:0<bH y.proc x.proc:=by
      rcases dg y.proc x.proc with ⟨h5,_⟩|⟨h5,_⟩|⟨_,h6⟩
      ·exact absurd h3 (mF h5)
      ·exact absurd h5 hyx
      ·omega
     rw [qDt h4] at hc;cases hc
    ·exact absurd h3.symm hyx
    ·exact h3
   show (y.proc :: cL (nr x l)).Pairwise fS;refine List.pairwise_cons.2 ⟨?_,Ah h2 fun z hz=>hn z (by simp [hz])⟩;intro z hz;obtain ⟨u,hu,rfl⟩:=List.mem_map.1 hz;rcases List.mem_cons.1 ((mN x l).mem_iff.1 hu) with rfl|hu
   ·exact hlt
   ·exact h1 _ (List.mem_map.2 ⟨u,hu,rfl⟩)
theorem jG {l:List Ho} {p:Pr} (h:af l p≠⟨0,0⟩):∃x∈l,x.proc=p/\x.am=af l p:=by
 induction l with
 | nil=>exact absurd rfl h
 | cons x l ih =>
  by_cases hx:x.proc=p
  ·refine ⟨x,by simp,hx,?_⟩;show x.am=bif decide (x.proc=p) then x.am else af l p;rw [qDt hx];rfl
  ·have e:af (x :: l) p=af l p:=by
    show (bif decide (x.proc=p) then x.am else af l p)=_;rw [qDf hx];rfl
   rw [e] at h ⊢;obtain ⟨y,h1,h2⟩:=ih h;exact ⟨y,by simp [h1],h2⟩
structure Hv (r:Rs) (l:List Ho):Prop where
 shp:aW r=true
 len:l.length<=8
 fit:∀x∈l,gm x.proc=true/\aH r x.am=true
 asc:(cL l).Pairwise fS
 cmp:Comp r (iA l)
theorem DY {r:Rs} {l:List Ho}:qD r l=true↔Hv r l:=by
 unfold qD;simp only [qBa,decide_eq_true_eq,Af,FG];constructor
 ·rintro ⟨⟨⟨h1,h2⟩,h3,h4,_⟩,h5⟩;exact ⟨h1,h2,h3,h4,h5⟩
 ·rintro ⟨h1,h2,h3,h4,h5⟩;exact ⟨⟨⟨h1,h2⟩,h3,h4,fun q hq=>by cases hq⟩,h5⟩
theorem qQ {l:List Ho} {x:Ho} (ha:(cL l).Pairwise fS) (hx:x∈l):l.Perm (x :: eW l x.proc):=by
 induction l with
 | nil=>cases hx
 | cons y l ih =>
  have ha':(y.proc :: cL l).Pairwise fS:=ha;obtain ⟨h1,h2⟩:=List.pairwise_cons.1 ha';rw [mI];rcases List.mem_cons.1 hx with rfl|hx
  ·rw [qDt rfl,qCt];have:eW l x.proc=l:=by
    unfold eW;rw [List.filter_eq_self];intro z hz;have h3:=h1 z.proc (List.mem_map.2 ⟨z,hz,rfl⟩);have h4:z.proc≠x.proc:=fun e=>bz _ (e▸h3);simpa using h4
   rw [this]
  ·have h3:=h1 x.proc (List.mem_map.2 ⟨x,hx,rfl⟩);have h4:y.proc≠x.proc:=fun e=>bz _ (e▸h3);rw [qDf h4,qCf];exact ((ih h2 hx).cons y).trans (List.Perm.swap x y _)
theorem Ai {l:List Ho} (p:Pr) (h:(cL l).Pairwise fS):(cL (eW l p)).Pairwise fS:=by
 unfold cL eW;exact h.sublist ((List.filter_sublist).map _)
theorem H4 {l:List Ho} {p:Pr} (h:∀x∈l,x.proc≠p):eW l p=l:=by
 unfold eW;rw [List.filter_eq_self];intro x hx;simpa using h x hx
theorem Hv.fil {r:Rs} {l:List Ho} (h:Hv r l) (p:Pr):Hv r (eW l p):=by
 refine ⟨h.shp,Nat.le_trans (oO l p) h.len,fun x hx=>h.fit x (List.mem_filter.1 hx).1,Ai p h.asc,?_⟩;by_cases hp:∃x∈l,x.proc=p
 ·obtain ⟨x,hx,rfl⟩:=hp;exact (h.cmp.perm ((qQ h.asc hx).map _)).tail
 ·rw [H4 fun x hx e=>hp ⟨x,hx,e⟩];exact h.cmp
theorem Hv.lower {r:Rs} {l:List Ho} (h:Hv r l) {p:Pr} {a:Am} (hc:bc r (af l p) a=true) (h0:af l p≠⟨0,0⟩):Hv r (cE l p a)/\(cE l p a).length<=l.length:=by
 unfold cE;cases hz:aJ a with
 | true=>exact ⟨h.fil p,oO l p⟩
 | false =>
  obtain ⟨x,hx,hp,ham⟩:=jG h0;subst hp;rw [<-ham] at hc;have hs:=qQ h.asc hx;have hl:(eW l x.proc).length+1=l.length:=by rw [hs.length_eq];rfl
  have hlen:(nr ⟨x.proc,a⟩ (eW l x.proc)).length=l.length:=by rw [oP,hl]
  rw [qCf];refine ⟨⟨h.shp,by rw [hlen];exact h.len,?_,Ah (Ai _ h.asc) DX,?_⟩,Nat.le_of_eq hlen⟩
  ·intro y hy;rcases List.mem_cons.1 ((mN _ _).mem_iff.1 hy) with rfl|hy
   ·refine ⟨(h.fit x hx).1,?_⟩;unfold bc bI at hc;simp only [qBa,Bool.or_eq_true] at hc;rcases hc.1.2.2 with h1|h1
    ·rw [hz] at h1;cases h1
    ·exact h1
   ·exact h.fit y (List.mem_filter.1 hy).1
  ·have h1:Comp r (x.am :: iA (eW l x.proc)):=h.cmp.perm (hs.map _);have h2:=h1.lower hc;exact h2.perm (by have:=(mN ⟨x.proc,a⟩ (eW l x.proc)).symm.map Ho.am;exact this)
theorem md {p:Pr}:∀{l:List Wt} {k:Nat},(∀x∈l,x.proc≠p)->gZ p k l = -1
 | [],_,_=>rfl
 | x :: l,k,h=>by
  rw [eL,qDf (h x (by simp)),qCf];exact md fun y hy=>h y (by simp [hy])
theorem sJ {p:Pr}:∀{l:List Wt} {k:Nat},(∃x∈l,x.proc=p)->(k:Int)<=gZ p k l/\gZ p k l<(k:Int)+l.length
 | [],_,h=>by obtain ⟨_,h,_⟩:=h;cases h
 | x :: l,k,h=>by
  rw [eL];by_cases hx:x.proc=p
  ·rw [qDt hx,qCt,List.length_cons];omega
  ·rw [qDf hx,qCf,List.length_cons];have h2:∃y∈l,y.proc=p:=by
    obtain ⟨y,hy,e⟩:=h;rcases List.mem_cons.1 hy with rfl|hy
    ·exact absurd e hx
    ·exact ⟨y,hy,e⟩
   have:=sJ (k:=k+1) h2;omega
theorem FJ {l:List Wt} {p:Pr}:dM l p<0↔∀x∈l,x.proc≠p:=by
 constructor
 ·intro h x hx e;have:=(sJ (k:=0) ⟨x,hx,e⟩).1;unfold dM at h;omega
 ·intro h;unfold dM;rw [md h];omega
theorem uS:∀(l:List Wt) (k:Nat) (all:List Wt) (pre:List Wt),all=pre++l->k=pre.length->(bR pre).Nodup->((∀j (h:j<l.length),dM all l[j].proc=((k+j:Nat):Int))↔(bR all).Nodup)
 | [],k,all,pre,hall,_,hp=>by
  subst hall;simpa using hp
 | x :: l,k,all,pre,hall,hk,hp=>by
  have hx:dM all x.proc=(k:Int)↔∀y∈pre,y.proc≠x.proc:=by
   have gen:∀(pre:List Wt) (k0:Nat),gZ x.proc k0 (pre++x :: l)=((k0+pre.length:Nat):Int)↔∀y∈pre,y.proc≠x.proc:=by
    intro pre;induction pre with
    | nil=>intro k0;simp [eL]
    | cons y pre ih =>
     intro k0;rw [List.cons_append,eL,List.length_cons];by_cases hy:y.proc=x.proc
     ·rw [qDt hy,qCt];constructor
      ·intro h;omega
      ·intro h;exact absurd hy (h y (by simp))
     ·rw [qDf hy,qCf];have h1:=ih (k0+1);have e1:((k0+(pre.length+1):Nat):Int)=((k0+1+pre.length:Nat):Int):=by omega
      rw [e1,h1];constructor
      ·intro h z hz;rcases List.mem_cons.1 hz with rfl|hz
       ·exact hy
       ·exact h z hz
      ·intro h z hz;exact h z (by simp [hz])
   rw [hall,hk];have:=gen pre 0
   rwa [Nat.zero_add] at this
  have ih:=fun hp2=>uS l (k+1) all (pre++[x]) (by rw [hall];simp) (by simp [hk]) hp2;have hpx:(bR (pre++[x])).Nodup↔∀y∈pre,y.proc≠x.proc:=by
   unfold bR at hp ⊢;rw [List.map_append,List.nodup_append];constructor
   ·rintro ⟨_,_,h⟩ y hy;exact h y.proc (List.mem_map.2 ⟨y,hy,rfl⟩) x.proc (by simp)
   ·intro h;refine ⟨hp,by simp,?_⟩;intro a ha b hb;obtain ⟨y,hy,rfl⟩:=List.mem_map.1 ha;simp at hb;subst hb;exact h y hy
  constructor
  ·intro h;have h0:dM all x.proc=(k:Int):=by have:=h 0 (by simp);simpa using this
   refine (ih (hpx.2 (hx.1 h0))).1 fun j hj=>?_;have:=h (j+1) (by simp;omega);simp only [List.getElem_cons_succ] at this;rw [this];omega
  ·intro h j hj;have h1:(bR (pre++[x])).Nodup:=by
    have e:bR all=bR (pre++[x])++bR l:=by rw [hall];simp [bR]
    rw [e] at h;exact (List.nodup_append.1 h).1
   cases j with
   | zero=>simpa using hx.2 (hpx.1 h1)
   | succ j =>
    have:=(ih h1).2 h j (by simp at hj;omega);exact RL
theorem sK (l:List Wt):(∀j (h:j<l.length),dM l l[j].proc=((j:Nat):Int))↔(bR l).Nodup:=by
 have:=uS l 0 l [] rfl rfl (by simp [bR]);simpa using this
theorem Aj (all:List Wt):∀(l:List Wt) (k:Nat),yr all k l=true↔(∀x∈l,uc x=true)/\∀j (h:j<l.length),dM all l[j].proc=((k+j:Nat):Int)
 | [],k=>by simp [yr]
 | x :: l,k=>by
  rw [mH];simp only [qBa,decide_eq_true_eq,Aj all l];constructor
  ·rintro ⟨⟨h1,h2⟩,h3,h4⟩;refine ⟨?_,?_⟩
   ·intro y hy;rcases List.mem_cons.1 hy with rfl|hy
    ·exact h1
    ·exact h3 y hy
   ·intro j hj;cases j with
    | zero=>simpa using h2
    | succ j =>
     have:=h4 j (by simp at hj;omega);exact RL
  ·exact Rj
theorem xB {l:List Wt}:fe l=true↔l.length<=8/\(∀x∈l,uc x=true)/\(bR l).Nodup:=by
 unfold fe;simp only [qBa,decide_eq_true_eq,Aj,Nat.zero_add,sK]
structure CvOk (r:Rs) (hs:List Ho) (x:Wt):Prop where
 held:af hs x.proc≠⟨0,0⟩
 fit:aH r x.am=true
 cov:bc r x.am (af hs x.proc)=true
 ne:x.am≠af hs x.proc
 prio:x.prio=0
 passed:x.passed=0
theorem bg {a:Am}:aJ a=false↔a≠⟨0,0⟩:=by unfold aJ;simp
theorem Ak (q:Qu):∀(l:List Wt) (k:Nat),ui q k l=true↔(∀x∈l,CvOk q.res q.holds x)/\∀j (h:j<l.length),dM q.convs l[j].proc=((k+j:Nat):Int)
 | [],k=>by simp [ui]
 | x :: l,k=>by
  rw [jx,qBa,Ak q l];have h0:Ff q k x=true↔CvOk q.res q.holds x/\dM q.convs x.proc=(k:Int):=by
   unfold Ff;simp only [qBa,decide_eq_true_eq,Bool.not_eq_true',bg,decide_eq_false_iff_not];constructor
   ·rintro ⟨⟨⟨⟨⟨⟨h1,h2⟩,h3⟩,h4⟩,h5⟩,h6⟩,h7⟩;exact ⟨⟨h2,h3,h4,h5,h6,h7⟩,h1⟩
   ·rintro ⟨⟨h2,h3,h4,h5,h6,h7⟩,h1⟩;exact ⟨⟨⟨⟨⟨⟨h1,h2⟩,h3⟩,h4⟩,h5⟩,h6⟩,h7⟩
  rw [h0];constructor
  ·rintro ⟨⟨h1,h2⟩,h3,h4⟩;refine ⟨?_,?_⟩
   ·intro y hy;rcases List.mem_cons.1 hy with rfl|hy
    ·exact h1
    ·exact h3 y hy
   ·intro j hj;cases j with
    | zero=>simpa using h2
    | succ j =>
     have:=h4 j (by simp at hj;omega);exact RL
  ·exact Rj
theorem Al (q:Qu):∀l:List Wt,tk q l=true↔∀x∈l,aH q.res x.am=true/\af q.holds x.proc=⟨0,0⟩
 | []=>by simp [tk]
 | x :: l=>by
  rw [jy];simp only [qBa,Al q l];have hz:aJ (af q.holds x.proc)=true↔af q.holds x.proc=⟨0,0⟩:=by unfold aJ;simp
  rw [hz];constructor
  ·rintro ⟨⟨h1,h2⟩,h3⟩ y hy;rcases List.mem_cons.1 hy with rfl|hy
   ·exact ⟨h1,h2⟩
   ·exact h3 y hy
  ·intro h;exact ⟨h x (by simp),fun y hy=>h y (by simp [hy])⟩
structure Sd (q:Qu):Prop where
 res:ly q.res=true
 hv:Hv q.res q.holds
 clen:q.convs.length<=8
 cnd:(bR q.convs).Nodup
 cok:∀x∈q.convs,CvOk q.res q.holds x
 wlen:q.holds.length+q.waits.length<=8
 wnd:(bR q.waits).Nodup
 wok:∀x∈q.waits,uc x=true/\aH q.res x.am=true/\af q.holds x.proc=⟨0,0⟩
 gen:0<=q.gen/\q.gen<=1073741824
theorem n9 {q:Qu}:eD q=true↔Sd q:=by
 unfold eD Fg Fh;simp only [qBa,decide_eq_true_eq,DY,Ak,Al,xB,Nat.zero_add,sK];constructor
 ·rintro ⟨⟨⟨⟨⟨h1,h2⟩,h3,h4,h5⟩,⟨⟨h6,h7,h8⟩,h9⟩,h10⟩,h11⟩,h12⟩;exact ⟨h1,h2,h3,h5,h4,h9,h8,fun x hx=>⟨h7 x hx,h10 x hx⟩,h11,h12⟩
 ·rintro ⟨h1,h2,h3,h5,h4,h9,h8,h7,h11,h12⟩;exact ⟨⟨⟨⟨⟨h1,h2⟩,h3,h4,h5⟩,⟨⟨by omega,fun x hx=>(h7 x hx).1,h8⟩,h9⟩,fun x hx=>(h7 x hx).2⟩,h11⟩,h12⟩
theorem Sd.noboth {q:Qu} (h:Sd q) {x y:Wt} (hx:x∈q.convs) (hy:y∈q.waits):x.proc≠y.proc:=fun e=>by
 have h1:=(h.cok x hx).held;rw [e,(h.wok y hy).2.2] at h1;exact h1 rfl
def g4 (q:Qu) (x:Wt):Qu:=match q.convs with
 | _ :: l=>{ q with convs:=l,holds:=cE q.holds x.proc x.am }
 | []=>{ q with waits:=q.waits.tail,holds:=cE q.holds x.proc x.am }
theorem yP {l:List Ho} {p:Pr} {a:Am} (ha:(cL l).Pairwise fS) (h0:af l p≠⟨0,0⟩):(cE l p a).length<=l.length:=by
 obtain ⟨x,hx,hp,_⟩:=jG h0;subst hp;have hs:=(qQ ha hx).length_eq;rw [List.length_cons] at hs;unfold cE;cases aJ a with
 | true=>rw [qCt];omega
 | false=>rw [qCf,oP];omega
theorem KR {r:Rs} {l:List Ho} {p:Pr} {a:Am} (h:gi r l p a=true):Hv r (cE l p a):=by
 unfold gi at h;rw [qBa] at h;exact DY.1 h.2
theorem CvOk.set {r:Rs} {hs:List Ho} {x:Wt} {p:Pr} {a:Am} (h:CvOk r hs x) (hp:x.proc≠p):CvOk r (cE hs p a) x:=by
 have e:af (cE hs p a) x.proc=af hs x.proc:=by rw [fF,if_neg hp]
 exact ⟨by rw [e];exact h.held,h.fit,by rw [e];exact h.cov,by rw [e];exact h.ne,h.prio,h.passed⟩
theorem Sd.pop {q:Qu} (h:Sd q) {x:Wt} (hx:dv q=some x) (hr:gi q.res q.holds x.proc x.am=true):Sd (g4 q x):=by
 obtain ⟨res,hs,cs,ws,gen⟩:=q;unfold dv at hx;unfold g4;have hv:=KR hr;cases cs with
 | cons c l =>
  injection hx with hx;subst hx;have hn:(c.proc :: bR l).Nodup:=h.cnd;rw [List.nodup_cons] at hn;refine ⟨h.res,hv,by have:=h.clen;simp at this;show l.length<=8;omega,hn.2,?_,?_,h.wnd,?_,h.gen⟩
  ·intro y hy;exact (h.cok y (by simp [hy])).set fun e=>hn.1 (e▸List.mem_map.2 ⟨y,hy,rfl⟩)
  ·have h1:=yP (a:=c.am) h.hv.asc (h.cok c (by simp)).held;have h2:=h.wlen;show (cE hs c.proc c.am).length+ws.length<=8;simp only at h1 h2;omega
  ·intro y hy;refine ⟨(h.wok y hy).1,(h.wok y hy).2.1,?_⟩;show af (cE hs c.proc c.am) y.proc=_;rw [fF,if_neg (fun e=>h.noboth (x:=c) (by simp) hy e.symm)];exact (h.wok y hy).2.2
 | nil =>
  cases ws with
  | nil=>cases hx
  | cons c l =>
   have hx':some c=some x:=hx;injection hx' with hx';subst hx';have hn:(c.proc :: bR l).Nodup:=h.wnd;rw [List.nodup_cons] at hn;refine ⟨h.res,hv,by simp,by simp [bR],fun y hy=>absurd hy (by simp),?_,hn.2,?_,h.gen⟩
   ·have h1:=G4 hs c.proc c.am;have h2:=h.wlen;show (cE hs c.proc c.am).length+l.length<=8;simp only [List.length_cons] at h2;omega
   ·intro y hy;have hy':y∈l:=hy;refine ⟨(h.wok y (by simp [hy'])).1,(h.wok y (by simp [hy'])).2.1,?_⟩;show af (cE hs c.proc c.am) y.proc=_;rw [fF,if_neg (show ¬y.proc=c.proc from fun e=>hn.1 (e▸List.mem_map.2 ⟨y,hy',rfl⟩))];exact (h.wok y (by simp [hy'])).2.2
def fg:Nat->Qu->List Ho->Qu×List Ho
 | 0,q,acc=>(q,acc)
 | n+1,q,acc=>match dv q with
  | none=>(q,acc)
  | some x=>bif gi q.res q.holds x.proc x.am then fg n (g4 q x) (acc++[⟨x.proc,x.am⟩]) else (q,acc)
def fO (q:Qu):Nat:=q.convs.length+q.waits.length
def o9 (q:Qu):Qu×List Ho:=fg (fO q) q []
theorem CG {q:Qu} {x:Wt} (hx:dv q=some x):fO (g4 q x)+1=fO q:=by
 obtain ⟨res,hs,cs,ws,gen⟩:=q;unfold dv at hx;unfold g4 fO;cases cs with
 | cons c l=>simp;omega
 | nil =>
  cases ws with
  | nil=>cases hx
  | cons c l=>simp
theorem db {q:Qu}:ai q=true↔Sd q/\∀x,dv q=some x->gi q.res q.holds x.proc x.am=false:=by
 unfold ai;rw [qBa,n9];cases dv q with
 | none=>simp
 | some x=>simp
theorem H5 (q:Qu) (x:Wt):(g4 q x).gen=q.gen/\(g4 q x).res=q.res:=by
 unfold g4;cases q.convs <;> exact ⟨rfl,rfl⟩
theorem nI:∀(n:Nat) (q:Qu) (acc:List Ho),Sd q->fO q<=n->ai (fg n q acc).1=true/\(fg n q acc).1.gen=q.gen/\(fg n q acc).1.res=q.res
 | 0,q,acc,h,hn=>by
  refine ⟨db.2 ⟨h,fun x hx=>?_⟩,rfl,rfl⟩;have:=CG (show dv q=some x from hx);omega
 | n+1,q,acc,h,hn=>by
  unfold fg;cases hx:dv q with
  | none=>exact ⟨db.2 ⟨h,fun x hx2=>by rw [hx] at hx2;cases hx2⟩,rfl,rfl⟩
  | some x =>
   dsimp only;cases hr:gi q.res q.holds x.proc x.am with
   | false =>
    rw [qCf];refine ⟨db.2 ⟨h,fun y hy=>?_⟩,rfl,rfl⟩;rw [hx] at hy;injection hy with hy;subst hy;exact hr
   | true =>
    rw [qCt];have h1:=CG hx;have h2:=nI n (g4 q x) (acc++[⟨x.proc,x.am⟩]) (h.pop hx hr) (by omega);have h3:=H5 q x;exact ⟨h2.1,h2.2.1.trans h3.1,h2.2.2.trans h3.2⟩
theorem kf {q:Qu} (h:Sd q):ai (o9 q).1=true/\(o9 q).1.gen=q.gen/\(o9 q).1.res=q.res:=nI _ q [] h (Nat.le_refl _)
def eN (q:Qu):Qu×List Ho:=({ (o9 q).1 with gen:=bE q.gen },(o9 q).2)
theorem pd {n:Int}:1<=bE n/\bE n<=1073741824:=by unfold bE;split <;> omega
theorem Sd.regen {q:Qu} (h:Sd q) {g:Int} (hg:0<=g/\g<=1073741824):Sd { q with gen:=g }:=⟨h.res,h.hv,h.clen,h.cnd,h.cok,h.wlen,h.wnd,h.wok,hg⟩
theorem pe {q:Qu} (h:Sd q):ai (eN q).1=true/\(eN q).1.res=q.res:=by
 have h1:=kf h;obtain ⟨h2,h3⟩:=db.1 h1.1;refine ⟨db.2 ⟨h2.regen (by have:=pd (n:=q.gen);omega),fun x hx=>h3 x hx⟩,h1.2.2⟩
def yQ (a b:Int):Int:=bif dK 1 a && dK 1 b then 1 else bif dK 2 a && dK 2 b then 2 else bif dK 3 a && dK 3 b then 3 else bif dK 4 a && dK 4 b then 4 else bif dK 5 a && dK 5 b then 5 else 0
def cl (r:Rs) (a b:Am):Am:=bif bI r a && bI r b then (bif bc r a b then a else bif bc r b a then b else ⟨yQ a.mode b.mode,0⟩) else ⟨0,0⟩
theorem Nn {h a:Int} (h1:bP h=true) (h2:bP a=true) (hc:dK h a=false) :
  bP (bif dK a h then a else yQ h a)=true/\dK (bif dK a h then a else yQ h a) h=true/\dK (bif dK a h then a else yQ h a) a=true/\(bif dK a h then a else yQ h a)≠h:=by
 unfold bP at h1 h2;simp only [qBa,decide_eq_true_eq] at h1 h2;have e1:h=1\/h=2\/h=3\/h=4\/h=5:=by omega
 have e2:a=1\/a=2\/a=3\/a=4\/a=5:=by omega
 rcases e1 with rfl|rfl|rfl|rfl|rfl <;> rcases e2 with rfl|rfl|rfl|rfl|rfl <;> first|(exact absurd hc (by decide))|decide
theorem df {r:Rs} {a:Am} (h:aH r a=true):bI r a=true:=by
 have h2:=h;unfold aH at h2;unfold bI;rw [qBa] at h2 ⊢;exact ⟨h2.1,by rw [h,Bool.or_true]⟩
theorem eF {r:Rs} {a:Am} (h:aH r a=true):aJ a=false:=by
 rw [bg];rintro rfl;unfold aH bP at h;simp at h
theorem me {r:Rs} {a:Am} (h:aH r a=true):bc r a a=true:=by
 have hp:=df h;have hz:=eF h;unfold bc;rw [hp,hz];unfold aH at h;by_cases hk:r.kind=1
 ·rw [if_pos hk] at h;rw [if_pos hk];simp only [qBa] at h;unfold dK;simp [h.2.1]
 ·simp [hk]
theorem yR {r:Rs} {h a:Am} (h1:aH r h=true) (h2:aH r a=true) (hc:bc r h a=false) :
  aH r (cl r h a)=true/\bc r (cl r h a) h=true/\bc r (cl r h a) a=true/\cl r h a≠h:=by
 have p1:=df h1;have p2:=df h2;have z1:=eF h1;have z2:=eF h2;have hs:aW r=true:=by unfold aH at h1;rw [qBa] at h1;exact h1.1
 unfold cl;rw [p1,p2,hc];simp only [Bool.and_true,qCt,qCf];rcases cj hs with ⟨hk,_⟩|⟨hk,_⟩
 ·obtain ⟨hm,hu⟩:=h;obtain ⟨am,au⟩:=a;have f1:=h1;have f2:=h2;unfold aH at f1 f2;rw [if_pos hk] at f1 f2;simp only [qBa,decide_eq_true_eq] at f1 f2;obtain ⟨_,m1,rfl⟩:=f1;obtain ⟨_,m2,rfl⟩:=f2;have cv:∀x y:Int,bP x=true->bP y=true->bc r ⟨x,0⟩ ⟨y,0⟩=dK x y:=by
   intro x y hx hy;have ft:∀z:Int,bP z=true->aH r ⟨z,0⟩=true:=by intro z hz;unfold aH;rw [if_pos hk,hs,hz];rfl
   have p3:=df (ft x hx);have p4:=df (ft y hy);have z3:=eF (ft x hx);have z4:=eF (ft y hy);unfold bc;rw [p3,p4,z3,z4,if_pos hk];rfl
  rw [cv _ _ m1 m2] at hc;obtain ⟨s1,s2,s3,s4⟩:=Nn m1 m2 hc;rw [cv _ _ m2 m1];have e:(bif dK am hm then (⟨am,0⟩:Am) else ⟨yQ hm am,0⟩)=⟨bif dK am hm then am else yQ hm am,0⟩:=by cases dK am hm <;> rfl
  rw [e,cv _ _ s1 m1,cv _ _ s1 m2];refine ⟨?_,s2,s3,?_⟩
  ·unfold aH;rw [if_pos hk,hs,s1];rfl
  ·intro h;injection h with h;exact s4 h
 ·have hk1:¬r.kind=1:=by omega
  have hc2:h.units<a.units:=by
   unfold bc at hc;rw [p1,p2,z1,z2,if_neg hk1] at hc;simpa using hc
  have c2:bc r a h=true:=by
   unfold bc;rw [p1,p2,z1,z2,if_neg hk1];simp;omega
  rw [c2,qCt];exact ⟨h2,c2,me h2,fun e=>by rw [e] at hc2;omega⟩
def uT (x:Wt):Wt:={ x with passed:=x.passed+1 }
def mf (w:Wt) (l:List Wt):Nat->Nat
 | 0=>0
 | n+1=>match l[n]? with
  | none=>n+1
  | some x=>bif decide (x.prio<w.prio) && decide (x.passed<3) then mf w l n else n+1
def jH (l:List Wt) (w:Wt):List Wt:=l.take (mf w l l.length)++w :: (l.drop (mf w l l.length)).map uT
theorem DZ (w:Wt) (l:List Wt):∀n,mf w l n<=n
 | 0=>Nat.le_refl _
 | n+1=>by
  unfold mf;cases l[n]? with
  | none=>exact Nat.le_refl _
  | some x =>
   dsimp only;cases decide (x.prio<w.prio) && decide (x.passed<3) with
   | true=>have:=DZ w l n;simp only [qCt];omega
   | false=>exact Nat.le_refl _
theorem xC (w:Wt) (l:List Wt):∀n j x,mf w l n<=j->j<n->l[j]? = some x->x.prio<w.prio/\x.passed<3
 | 0,_,_,_,h,_=>absurd h (by omega)
 | n+1,j,x,hk,hj,hx=>by
  unfold mf at hk;by_cases hjn:j=n
  ·subst hjn;rw [hx] at hk;dsimp only at hk;cases hc:decide (x.prio<w.prio) && decide (x.passed<3) with
   | true=>simpa using hc
   | false=>rw [hc] at hk;simp only [qCf] at hk;omega
  ·cases hn:l[n]? with
   | none=>rw [hn] at hk;dsimp only at hk;omega
   | some y =>
    rw [hn] at hk;dsimp only at hk;cases hc:decide (y.prio<w.prio) && decide (y.passed<3) with
    | true=>rw [hc] at hk;exact xC w l n j x hk (by omega) hx
    | false=>rw [hc] at hk;simp only [qCf] at hk;omega
theorem An (l:List Wt) (w:Wt):(jH l w).length=l.length+1:=by
 unfold jH;have:=DZ w l l.length;simp;omega
theorem CH (l:List Wt) (w:Wt):(bR (jH l w)).Perm (w.proc :: bR l):=by
 have e:bR (jH l w)=bR (l.take (mf w l l.length))++w.proc :: bR (l.drop (mf w l l.length)):=by
  unfold jH bR;rw [List.map_append,List.map_cons,List.map_map];rfl
 have e2:bR l=bR (l.take (mf w l l.length))++bR (l.drop (mf w l l.length)):=by
  unfold bR;rw [<-List.map_append,List.take_append_drop]
 rw [e]
 conv=>rhs;rw [e2]
 exact List.perm_middle
theorem uU {l:List Wt} {w x:Wt} (hx:x∈jH l w):x=w\/x∈l\/∃y∈l,x=uT y/\y.prio<w.prio/\y.passed<3:=by
 unfold jH at hx;rcases List.mem_append.1 hx with hx|hx
 ·exact .inr (.inl (List.mem_of_mem_take hx))
 ·rcases List.mem_cons.1 hx with hx|hx
  ·exact .inl hx
  ·obtain ⟨y,hy,rfl⟩:=List.mem_map.1 hx;obtain ⟨j,hj,e⟩:=List.mem_iff_getElem.1 hy;rw [List.getElem_drop] at e;rw [List.length_drop] at hj;have h1:=xC w l l.length (mf w l l.length+j) y (by omega) (by omega) (by rw [qGg (by omega),e]);exact .inr (.inr ⟨y,List.mem_of_mem_drop hy,rfl,h1⟩)
theorem ez {l:List Wt} {p:Pr}:go l p=none↔∀x∈l,x.proc≠p:=by
 induction l with
 | nil=>simp [go]
 | cons x l ih =>
  rw [cr];by_cases hx:x.proc=p
  ·rw [qDt hx,qCt];constructor
   ·intro h;cases h
   ·intro h;exact absurd hx (h x (by simp))
  ·rw [qDf hx,qCf,ih];constructor
   ·intro h y hy;rcases List.mem_cons.1 hy with rfl|hy
    ·exact hx
    ·exact h y hy
   ·intro h y hy;exact h y (by simp [hy])
theorem FK {l:List Wt} {p:Pr} {a:Am} (h:go l p=some a):∃x∈l,x.proc=p/\x.am=a:=by
 induction l with
 | nil=>cases h
 | cons x l ih =>
  rw [cr] at h;by_cases hx:x.proc=p
  ·rw [qDt hx,qCt] at h;injection h with h;exact ⟨x,by simp,hx,h⟩
  ·rw [qDf hx,qCf] at h;obtain ⟨y,h1,h2⟩:=ih h;exact ⟨y,by simp [h1],h2⟩
theorem eO (l m:List Wt) (p:Pr):go (l++m) p=match go l p with|some a=>some a|none=>go m p:=by
 induction l with
 | nil=>rfl
 | cons x l ih =>
  rw [List.cons_append,cr,cr];cases decide (x.proc=p) with
  | true=>rfl
  | false=>exact ih
theorem uW {l:List Wt} {x:Wt} (hn:(bR l).Nodup) (hx:x∈l):go l x.proc=some x.am:=by
 induction l with
 | nil=>cases hx
 | cons y l ih =>
  have hn':(y.proc :: bR l).Nodup:=hn;rw [List.nodup_cons] at hn';rw [cr];rcases List.mem_cons.1 hx with rfl|hx
  ·rw [qDt rfl];rfl
  ·have:y.proc≠x.proc:=fun e=>hn'.1 (e▸List.mem_map.2 ⟨x,hx,rfl⟩);rw [qDf this,qCf];exact ih hn'.2 hx
theorem Sd.nd {q:Qu} (h:Sd q):(bR (q.convs++q.waits)).Nodup:=by
 unfold bR;rw [List.map_append,List.nodup_append];refine ⟨h.cnd,h.wnd,?_⟩;intro a ha b hb;obtain ⟨x,hx,rfl⟩:=List.mem_map.1 ha;obtain ⟨y,hy,rfl⟩:=List.mem_map.1 hb;exact h.noboth hx hy
theorem KS {q:Qu} (h:Sd q) {x:Wt} (hx:dv q=some x) (p:Pr):(p≠x.proc/\af (g4 q x).holds p=af q.holds p/\ah (g4 q x) p=ah q p)\/(p=x.proc/\ah q p=some x.am/\af (g4 q x).holds p=x.am/\ah (g4 q x) p=none):=by
 have hn:=h.nd;obtain ⟨res,hs,cs,ws,gen⟩:=q;unfold dv at hx;unfold g4 ah;cases cs with
 | cons c l =>
  injection hx with hx;subst hx;have hn':(c.proc :: bR (l++ws)).Nodup:=hn;rw [List.nodup_cons] at hn';dsimp only;rw [List.cons_append,cr,fF];by_cases hp:p=c.proc
  ·exact RH
  ·exact .inl ⟨hp,by rw [if_neg hp],by rw [qDf (fun e=>hp e.symm)];rfl⟩
 | nil =>
  cases ws with
  | nil=>cases hx
  | cons c l =>
   have hx':some c=some x:=hx;injection hx' with hx';subst hx';have hn':(c.proc :: bR l).Nodup:=hn;rw [List.nodup_cons] at hn';dsimp only;rw [List.nil_append,List.nil_append,List.tail_cons,cr,fF];by_cases hp:p=c.proc
   ·exact RH
   ·exact .inl ⟨hp,by rw [if_neg hp],by rw [qDf (fun e=>hp e.symm)];rfl⟩
theorem D1:∀(n:Nat) (q:Qu) (acc:List Ho),Sd q->∀p,(af (fg n q acc).1.holds p=af q.holds p/\ah (fg n q acc).1 p=ah q p)\/∃a,ah q p=some a/\af (fg n q acc).1.holds p=a/\ah (fg n q acc).1 p=none
 | 0,q,acc,_,p=>.inl ⟨rfl,rfl⟩
 | n+1,q,acc,h,p=>by
  unfold fg;cases hx:dv q with
  | none=>exact .inl ⟨rfl,rfl⟩
  | some x =>
   dsimp only;cases hr:gi q.res q.holds x.proc x.am with
   | false=>exact .inl ⟨rfl,rfl⟩
   | true =>
    rw [qCt];have h1:=D1 n (g4 q x) (acc++[⟨x.proc,x.am⟩]) (h.pop hx hr) p;rcases KS h hx p with ⟨_,h2,h3⟩|⟨_,h2,h3,h4⟩
    ·rw [h2,h3] at h1;exact h1
    ·rcases h1 with ⟨h5,h6⟩|⟨a,h5,_⟩
     ·exact .inr ⟨x.am,h2,h5.trans h3,h6.trans h4⟩
     ·rw [h4] at h5;cases h5
theorem xD:∀(n:Nat) (q:Qu) (acc:List Ho),∀x∈(fg n q acc).1.waits,x∈q.waits
 | 0,q,acc,x,hx=>hx
 | n+1,q,acc,x,hx=>by
  unfold fg at hx;cases hh:dv q with
  | none=>rw [hh] at hx;exact hx
  | some y =>
   rw [hh] at hx;dsimp only at hx;cases hr:gi q.res q.holds y.proc y.am with
   | false=>rw [hr] at hx;exact hx
   | true =>
    rw [hr,qCt] at hx;have h1:=xD n (g4 q y) _ x hx;unfold g4 at h1;split at h1
    ·exact h1
    ·exact List.mem_of_mem_tail h1
def yS:Qu:=⟨⟨⟨#[]⟩,0,0,0⟩,[],[],[],0⟩
def bX (l:List Wt) (p:Pr):List Wt:=l.filter fun x=>!decide (x.proc=p)
theorem iG {l:List Wt} {p:Pr} {x:Wt}:x∈bX l p↔x∈l/\x.proc≠p:=by unfold bX;simp
theorem D2 {l:List Wt} (p:Pr) (h:(bR l).Nodup):(bR (bX l p)).Nodup:=h.sublist ((List.filter_sublist).map _)
theorem jI (l:List Wt) (p:Pr):(bX l p).length<=l.length:=List.length_filter_le _ _
theorem Ao (l:List Wt) (p r:Pr):go (bX l p) r=if r=p then none else go l r:=by
 by_cases hr:r=p
 ·rw [if_pos hr,ez];intro x hx e;exact (iG.1 hx).2 (e.trans hr)
 ·rw [if_neg hr];induction l with
  | nil=>rfl
  | cons x l ih =>
   rw [cr];unfold bX at ih ⊢;rw [List.filter_cons];by_cases hx:x.proc=p
   ·rw [qDt hx,Bool.not_true,if_neg (by simp),ih,qDf (fun e=>hr (e.symm.trans hx)),qCf]
   ·rw [qDf hx,Bool.not_false,if_pos rfl,cr,ih]
def nv (l:List Wt) (w:Wt):Int×List Wt :=
 bif !fe l then (2,[]) else bif !(uc w && decide (w.passed=0)) then (1,[]) else bif decide (0<=dM l w.proc) then (11,[]) else bif decide (l.length=8) then (4,[]) else (0,jH l w)
def jJ (r:Qu×List Ho):Qu×List Ho×Int:=(r.1,r.2,0)
def bY (e:Int):Qu×List Ho×Int:=(yS,[],e)
def bO (q:Qu) (p:Pr) (a:Am) (prio:Int):Qu×List Ho×Int :=
 bif !ai q then bY 2 else
 bif !(gm p && decide (0<=prio) && decide (prio<=7)) then bY 1 else
 bif !aH q.res a then bY 12 else
 bif (ah q p).isSome then bY 14 else
 bif bc q.res (af q.holds p) a then jJ (q,[]) else
 bif !aJ (af q.holds p) then jJ (eN { q with convs:=q.convs++[⟨p,cl q.res (af q.holds p) a,0,0⟩] }) else
 bif decide (8<=q.holds.length+q.waits.length) then bY 4 else
 bif !decide ((nv q.waits ⟨p,a,prio,0⟩).1=0) then bY (nv q.waits ⟨p,a,prio,0⟩).1 else
 jJ (eN { q with waits:=(nv q.waits ⟨p,a,prio,0⟩).2 })
def bd (q:Qu) (p:Pr):Qu×List Ho×Int :=
 bif !ai q then bY 2 else bif !(ah q p).isSome then bY 10 else jJ (eN { q with convs:=bX q.convs p,waits:=bX q.waits p })
def aY (q:Qu) (p:Pr) (a:Am):Qu×List Ho×Int :=
 bif !ai q then bY 2 else bif aJ (af q.holds p) then bY 10 else bif (ah q p).isSome then bY 14 else bif !bc q.res (af q.holds p) a then bY 12 else
 bif decide (af q.holds p=a) then jJ (q,[]) else jJ (eN { q with holds:=cE q.holds p a })
def dY (q:Qu) (p:Pr):Bool:=(ah q p).isSome || !aJ (af q.holds p)
def br (q:Qu) (p:Pr):Qu×List Ho×Int :=
 bif !ai q then bY 2 else bif !dY q p then bY 10 else jJ (eN { q with holds:=cE q.holds p ⟨0,0⟩,convs:=bX q.convs p,waits:=bX q.waits p })
theorem el {l m:List Pr} (hn:l.Nodup) (hs:∀x∈l,x∈m):l.length<=m.length:=by
 induction l generalizing m with
 | nil=>exact Nat.zero_le _
 | cons x l ih =>
  rw [List.nodup_cons] at hn;have hx:=hs x (by simp);have h1:=ih (m:=m.erase x) hn.2 fun y hy=>(List.mem_erase_of_ne (fun (e:y=x)=>hn.1 (e▸hy))).2 (hs y (by simp [hy]));have h2:=List.length_erase_of_mem hx;have h3:=List.length_pos_of_mem hx;rw [List.length_cons];omega
theorem Sd.cons {q:Qu} (h:Sd q) {p:Pr} {a:Am} (hh:af q.holds p≠⟨0,0⟩) (hw:ah q p=none) (hf:aH q.res a=true) (hc:bc q.res (af q.holds p) a=false) :
  Sd { q with convs:=q.convs++[⟨p,cl q.res (af q.holds p) a,0,0⟩] }:=by
 have hnone:=ez.1 hw;obtain ⟨x,hx,hxp,hxa⟩:=jG hh;have hfh:aH q.res (af q.holds p)=true:=by rw [<-hxa];exact (h.hv.fit x hx).2
 obtain ⟨j1,j2,j3,j4⟩:=yR hfh hf hc;have hnp:∀y∈q.convs,y.proc≠p:=fun y hy=>hnone y (by simp [hy]);have hnd:(bR (q.convs++[⟨p,cl q.res (af q.holds p) a,0,0⟩])).Nodup:=by
  unfold bR;rw [List.map_append,List.nodup_append];refine ⟨h.cnd,by simp,?_⟩;intro u hu v hv;obtain ⟨y,hy,rfl⟩:=List.mem_map.1 hu;simp at hv;subst hv;exact hnp y hy
 have hcok:∀y∈q.convs++[⟨p,cl q.res (af q.holds p) a,0,0⟩],CvOk q.res q.holds y:=by
  intro y hy;rcases List.mem_append.1 hy with hy|hy
  ·exact h.cok y hy
  ·rw [List.mem_singleton] at hy;subst hy;exact ⟨hh,j1,j2,j4,rfl,rfl⟩
 refine ⟨h.res,h.hv,?_,hnd,hcok,h.wlen,h.wnd,h.wok,h.gen⟩;have hsub:∀u∈bR (q.convs++[⟨p,cl q.res (af q.holds p) a,0,0⟩]),u∈cL q.holds:=by
  intro u hu;obtain ⟨y,hy,rfl⟩:=List.mem_map.1 hu;obtain ⟨z,hz,hzp,_⟩:=jG (hcok y hy).held;exact List.mem_map.2 ⟨z,hz,hzp⟩
 have h1:=el hnd hsub;have h2:=h.hv.len;unfold bR cL at h1;rw [List.length_map,List.length_map] at h1;exact Nat.le_trans h1 h2
theorem mg {r:Rs} {a:Am} (h:aH r a=true):bj a=true:=by
 have hs:aW r=true:=by unfold aH at h;rw [qBa] at h;exact h.1
 unfold aH at h;unfold bj;rcases cj hs with ⟨hk,_⟩|⟨hk,h1,h2⟩
 ·rw [if_pos hk] at h;simp only [qBa,decide_eq_true_eq] at h;simp [h.2.1,h.2.2]
 ·rw [if_neg (by omega)] at h;simp only [qBa,decide_eq_true_eq] at h;simp only [Bool.or_eq_true,qBa,decide_eq_true_eq];exact .inr ⟨⟨h.2.1.1,h.2.1.2⟩,by omega⟩
theorem FL {x:Wt} (h:uc x=true):gm x.proc=true/\bj x.am=true/\(0<=x.prio/\x.prio<=7)/\(0<=x.passed/\x.passed<=3):=by
 unfold uc at h;simp only [qBa,decide_eq_true_eq] at h;exact ⟨h.1.1.1.1.1,h.1.1.1.1.2,⟨h.1.1.1.2,h.1.1.2⟩,h.1.2,h.2⟩
theorem H6 {x:Wt} (h1:gm x.proc=true) (h2:bj x.am=true) (h3:0<=x.prio/\x.prio<=7) (h4:0<=x.passed/\x.passed<=3):uc x=true:=by
 unfold uc;simp only [qBa,decide_eq_true_eq];exact ⟨⟨⟨⟨⟨h1,h2⟩,h3.1⟩,h3.2⟩,h4.1⟩,h4.2⟩
theorem Sd.ins {q:Qu} (h:Sd q) {w:Wt} (hh:af q.holds w.proc=⟨0,0⟩) (hw:ah q w.proc=none) (hf:aH q.res w.am=true) (hv:uc w=true) (hl:q.holds.length+q.waits.length<8) :
  Sd { q with waits:=jH q.waits w }:=by
 have hnone:=ez.1 hw;refine ⟨h.res,h.hv,h.clen,h.cnd,h.cok,?_,?_,?_,h.gen⟩
 ·show q.holds.length+(jH q.waits w).length<=8;rw [An];omega
 ·refine (CH q.waits w).nodup_iff.2 (List.nodup_cons.2 ⟨?_,h.wnd⟩);intro hm;obtain ⟨y,hy,e⟩:=List.mem_map.1 hm;exact hnone y (by simp [hy]) e
 ·intro x hx;rcases uU hx with rfl|hx|⟨y,hy,rfl,h1,h2⟩
  ·exact ⟨hv,hf,hh⟩
  ·exact h.wok x hx
  ·have h3:=h.wok y hy;obtain ⟨v1,v2,v3,v4⟩:=FL h3.1;exact ⟨H6 (x:=uT y) v1 v2 v3 ⟨by show 0<=y.passed+1;omega,by show y.passed+1<=3;omega⟩,h3.2⟩
theorem Sd.drop {q:Qu} (h:Sd q) (p:Pr):Sd { q with convs:=bX q.convs p,waits:=bX q.waits p } :=
 ⟨h.res,h.hv,Nat.le_trans (jI _ _) h.clen,D2 p h.cnd,fun x hx=>h.cok x (iG.1 hx).1,by have h1:=h.wlen;have h2:=jI q.waits p;show q.holds.length+(bX q.waits p).length<=8;omega,D2 p h.wnd,fun x hx=>h.wok x (iG.1 hx).1,h.gen⟩
theorem Sd.lower {q:Qu} (h:Sd q) {p:Pr} {a:Am} (hw:ah q p=none) (h0:af q.holds p≠⟨0,0⟩) (hc:bc q.res (af q.holds p) a=true):Sd { q with holds:=cE q.holds p a }:=by
 have hnone:=ez.1 hw;obtain ⟨h1,h2⟩:=h.hv.lower hc h0;refine ⟨h.res,h1,h.clen,h.cnd,fun x hx=>(h.cok x hx).set (hnone x (by simp [hx])),?_,h.wnd,?_,h.gen⟩
 ·have:=h.wlen;show (cE q.holds p a).length+q.waits.length<=8;omega
 ·intro x hx;refine ⟨(h.wok x hx).1,(h.wok x hx).2.1,?_⟩;show af (cE q.holds p a) x.proc=_;rw [fF,if_neg (hnone x (by simp [hx]))];exact (h.wok x hx).2.2
theorem FM (l:List Ho) (p:Pr):cE l p ⟨0,0⟩=eW l p:=by unfold cE aJ;simp
theorem Sd.gone {q:Qu} (h:Sd q) (p:Pr):Sd { q with holds:=cE q.holds p ⟨0,0⟩,convs:=bX q.convs p,waits:=bX q.waits p }:=by
 have hd:=h.drop p;rw [FM];have hg:∀r,r≠p->af (eW q.holds p) r=af q.holds r:=fun r hr=>by rw [uR,if_neg hr]
 refine ⟨h.res,h.hv.fil p,hd.clen,hd.cnd,?_,?_,hd.wnd,?_,h.gen⟩
 ·intro x hx;have hx':=iG.1 hx;have h1:=h.cok x hx'.1;exact ⟨by rw [hg _ hx'.2];exact h1.held,h1.fit,by rw [hg _ hx'.2];exact h1.cov,by rw [hg _ hx'.2];exact h1.ne,h1.prio,h1.passed⟩
 ·have h1:=oO q.holds p;have h2:=hd.wlen;show (eW q.holds p).length+(bX q.waits p).length<=8;have h3:q.holds.length+(bX q.waits p).length<=8:=h2;omega
 ·intro x hx;have hx':=iG.1 hx;have h1:=h.wok x hx'.1;exact ⟨h1.1,h1.2.1,by rw [hg _ hx'.2];exact h1.2.2⟩
def Eff (q q':Qu) (p:Pr):Prop:=(af q'.holds p=af q.holds p/\ah q' p=ah q p)\/∃a,ah q p=some a/\af q'.holds p=a/\ah q' p=none
theorem tS {q:Qu} (h:Sd q) (p:Pr):Eff q (eN q).1 p:=by
 have:=D1 (fO q) q [] h p;exact this
theorem qR {q:Qu} {x:Wt} (hx:x∈(eN q).1.waits):x∈q.waits:=xD (fO q) q [] x hx
theorem Eff.of {q r q':Qu} {p:Pr} (h:Eff r q' p) (h1:af r.holds p=af q.holds p) (h2:ah r p=ah q p):Eff q q' p:=by
 unfold Eff at *
 rw [h1,h2] at h;exact h
theorem Eff.refl (q:Qu) (p:Pr):Eff q q p:=.inl ⟨rfl,rfl⟩
structure Out (q q':Qu) (p:Pr):Prop where
 ok:ai q'=true
 res:q'.res=q.res
 eff:∀r,r≠p->Eff q q' r
 prio:∀x∈q'.waits,x.proc≠p->∃y∈q.waits,y.proc=x.proc/\y.prio=x.prio
theorem aG {q:Qu} (h:ai q=true):Sd q:=(db.1 h).1
theorem pf {q r:Qu} {p:Pr} (h:Sd r) (hr:r.res=q.res) (he:∀s,s≠p->af r.holds s=af q.holds s/\ah r s=ah q s) (hp:∀x∈r.waits,x.proc≠p->∃y∈q.waits,y.proc=x.proc/\y.prio=x.prio):Out q (eN r).1 p :=
 ⟨(pe h).1,(pe h).2.trans hr,fun s hs=>(tS h s).of (he s hs).1 (he s hs).2,fun x hx hxp=>hp x (qR hx) hxp⟩
theorem Out.same {q:Qu} (p:Pr) (h:ai q=true):Out q q p:=⟨h,rfl,fun r _=>Eff.refl q r,fun x hx _=>⟨x,hx,rfl,rfl⟩⟩
theorem Ap {q:Qu} {x:Wt} (s:Pr) (hs:s≠x.proc):ah { q with convs:=q.convs++[x] } s=ah q s:=by
 unfold ah;dsimp only;rw [eO,eO,eO];have:go [x] s=none:=by rw [ez];intro y hy;rw [List.mem_singleton] at hy;subst hy;exact fun e=>hs e.symm
 rw [this];cases go q.convs s <;> rfl
theorem uX:∀{l m:List Wt} {s:Pr},l.map (fun x=>(x.proc,x.am))=m.map (fun x=>(x.proc,x.am))->go l s=go m s
 | [],[],_,_=>rfl
 | [],_ :: _,_,h=>by simp at h
 | _ :: _,[],_,h=>by simp at h
 | x :: l,y :: m,s,h=>by
  simp only [List.map_cons,List.cons.injEq,Prod.mk.injEq] at h;rw [cr,cr,h.1.1,h.1.2,uX h.2]
theorem FN {l:List Wt} {w:Wt} {s:Pr} (hs:s≠w.proc):go (jH l w) s=go l s:=by
 unfold jH;have e:∀m:List Wt,go (m.map uT) s=go m s:=fun m=>uX (by rw [List.map_map];rfl);rw [eO,cr,qDf (fun h=>hs h.symm),qCf,e]
 conv=>rhs;rw [<-List.take_append_drop (mf w l l.length) l]
 rw [eO]
theorem CJ {q:Qu} {w:Wt} (s:Pr) (hs:s≠w.proc):ah { q with waits:=jH q.waits w } s=ah q s:=by
 unfold ah;dsimp only;rw [eO,eO,FN hs]
theorem kh (q:Qu) (p s:Pr):ah { q with convs:=bX q.convs p,waits:=bX q.waits p } s=if s=p then none else ah q s:=by
 unfold ah;dsimp only;rw [eO,eO,Ao,Ao];by_cases h:s=p
 ·simp only [if_pos h]
 ·simp only [if_neg h]
theorem tT {q:Qu} (h:Sd q) {p:Pr} {a:Am} {prio:Int} (hw:ah q p=none) (hf:aH q.res a=true) (hp:gm p=true) (h1:0<=prio/\prio<=7) (hl:q.holds.length+q.waits.length<8) :
  nv q.waits ⟨p,a,prio,0⟩=(0,jH q.waits ⟨p,a,prio,0⟩)/\uc ⟨p,a,prio,0⟩=true:=by
 have hv:uc ⟨p,a,prio,0⟩=true:=H6 hp (mg hf) h1 (by simp);have hln:fe q.waits=true:=xB.2 ⟨by omega,fun x hx=>(h.wok x hx).1,h.wnd⟩;have hnone:=ez.1 hw;have hfd:dM q.waits p<0:=FJ.2 fun x hx=>hnone x (by simp [hx]);have d1:decide (0<=dM q.waits p)=false:=qDf (by omega);have d2:decide (q.waits.length=8)=false:=qDf (by omega);refine ⟨?_,hv⟩;unfold nv;rw [hln,hv];simp only [Bool.not_true,Bool.and_self,decide_true,qCf,d1,d2]
theorem CK {q:Qu} {p:Pr} {a:Am} {prio:Int} (h:(bO q p a prio).2.2=0):Out q (bO q p a prio).1 p:=by
 unfold bO at h ⊢;cases hS:ai q with
 | false=>rw [hS] at h;simp [bY] at h
 | true =>
  have hd:=aG hS;rw [hS] at h;simp only [Bool.not_true,qCf] at h ⊢;cases hA:gm p && decide (0<=prio) && decide (prio<=7) with
  | false=>rw [hA] at h;simp [bY] at h
  | true =>
   rw [hA] at h;simp only [Bool.not_true,qCf] at h ⊢;simp only [qBa,decide_eq_true_eq] at hA;cases hF:aH q.res a with
   | false=>rw [hF] at h;simp [bY] at h
   | true =>
    rw [hF] at h;simp only [Bool.not_true,qCf] at h ⊢;cases hW:ah q p with
    | some b=>rw [hW] at h;simp [bY] at h
    | none =>
     rw [hW] at h;simp only [Option.isSome_none,qCf] at h ⊢;cases hC:bc q.res (af q.holds p) a with
     | true=>exact Out.same p hS
     | false =>
      rw [hC] at h;simp only [qCf] at h ⊢;cases hZ:aJ (af q.holds p) with
      | false =>
       simp only [Bool.not_false,qCt];exact pf (hd.cons (bg.1 hZ) hW hF hC) rfl (fun s hs=>⟨rfl,Ap s hs⟩) (fun x hx _=>⟨x,hx,rfl,rfl⟩)
      | true =>
       rw [hZ] at h;simp only [Bool.not_true,qCf] at h ⊢;by_cases hl:8<=q.holds.length+q.waits.length
       ·rw [qDt hl] at h;simp [bY] at h
       ·rw [qDf hl] at h ⊢;simp only [qCf] at h ⊢;obtain ⟨e1,hv⟩:=tT hd hW hF hA.1.1 ⟨hA.1.2,hA.2⟩ (by omega);rw [e1];simp only [decide_true,Bool.not_true,qCf];have hz:af q.holds p=⟨0,0⟩:=of_decide_eq_true hZ;refine pf (hd.ins hz hW hF hv (by omega)) rfl (fun s hs=>⟨rfl,CJ s hs⟩) ?_;intro x hx hxp;rcases uU hx with rfl|hx|⟨y,hy,rfl,_,_⟩
        ·exact absurd rfl hxp
        ·exact ⟨x,hx,rfl,rfl⟩
        ·exact ⟨y,hy,rfl,rfl⟩
theorem Aq {q:Qu} {p:Pr} (h:(bd q p).2.2=0):Out q (bd q p).1 p:=by
 unfold bd at h ⊢;cases hS:ai q with
 | false=>rw [hS] at h;simp [bY] at h
 | true =>
  have hd:=aG hS;rw [hS] at h;simp only [Bool.not_true,qCf] at h ⊢;cases hW:(ah q p).isSome with
  | false=>rw [hW] at h;simp [bY] at h
  | true =>
   simp only [Bool.not_true,qCf];exact pf (hd.drop p) rfl (fun s hs=>⟨rfl,by rw [kh,if_neg hs]⟩) (fun x hx _=>⟨x,(iG.1 hx).1,rfl,rfl⟩)
theorem CL {q:Qu} {p:Pr} {a:Am} (h:(aY q p a).2.2=0):Out q (aY q p a).1 p:=by
 unfold aY at h ⊢;cases hS:ai q with
 | false=>rw [hS] at h;simp [bY] at h
 | true =>
  have hd:=aG hS;rw [hS] at h;simp only [Bool.not_true,qCf] at h ⊢;cases hZ:aJ (af q.holds p) with
  | true=>rw [hZ] at h;simp [bY] at h
  | false =>
   rw [hZ] at h;simp only [qCf] at h ⊢;cases hW:ah q p with
   | some b=>rw [hW] at h;simp [bY] at h
   | none =>
    rw [hW] at h;simp only [Option.isSome_none,qCf] at h ⊢;cases hC:bc q.res (af q.holds p) a with
    | false=>rw [hC] at h;simp [bY] at h
    | true =>
     simp only [Bool.not_true,qCf];cases hE:decide (af q.holds p=a) with
     | true=>exact Out.same p hS
     | false =>
      simp only [qCf];exact pf (hd.lower hW (bg.1 hZ) hC) rfl (fun s hs=>⟨by show af (cE q.holds p a) s=_;rw [fF,if_neg hs],rfl⟩) (fun x hx _=>⟨x,hx,rfl,rfl⟩)
theorem Ar {q:Qu} {p:Pr} (h:(br q p).2.2=0):Out q (br q p).1 p:=by
 unfold br at h ⊢;cases hS:ai q with
 | false=>rw [hS] at h;simp [bY] at h
 | true =>
  have hd:=aG hS;rw [hS] at h;simp only [Bool.not_true,qCf] at h ⊢;cases hH:dY q p with
  | false=>rw [hH] at h;simp [bY] at h
  | true =>
   simp only [Bool.not_true,qCf];refine pf (hd.gone p) rfl (fun s hs=>⟨by show af (cE q.holds p ⟨0,0⟩) s=_;rw [fF,if_neg hs],?_⟩) (fun x hx _=>⟨x,(iG.1 hx).1,rfl,rfl⟩);have:=kh q p s;rw [if_neg hs] at this;exact this
end Go.Proofs.YtkkbopkbjacfmaaGreatDoor
