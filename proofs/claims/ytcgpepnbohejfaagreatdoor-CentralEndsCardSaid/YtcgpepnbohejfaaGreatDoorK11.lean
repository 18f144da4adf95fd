/- Part 11 of 56 of the proof of both_hold (no condition). -/
import Derived.Test.YtcgpepnbohejfaaGreatDoorK10
import Derived.Test.YtcgpepnbohejfaaGreatDoorK09
set_option linter.unusedVariables false
set_option linter.unusedSimpArgs false
set_option maxRecDepth 100000
set_option maxHeartbeats 64000000
namespace Go.Proofs.YtcgpepnbohejfaaGreatDoor
open Go.RowKit Go.Proofs.Tryz
theorem jg {l:List Ho} (ha:(c8 l).Pairwise fC) {x:Ho} (hx:x∈l):ao l x.proc=x.am:=by
 induction l with
 | nil=>cases hx
 | cons y l ih =>
  have ha':(y.proc :: c8 l).Pairwise fC:=ha;obtain ⟨h1,h2⟩:=List.pairwise_cons.1 ha';show (bif decide (y.proc=x.proc) then y.am else ao l x.proc)=x.am;rcases List.mem_cons.1 hx with rfl|hx
  ·rw [decide_eq_true rfl];rfl
  ·have h3:=h1 x.proc (List.mem_map.2 ⟨x,hx,rfl⟩);rw [decide_eq_false (fun (e:y.proc=x.proc)=>bI _ (e▸h3)),cond_false];exact ih h2 hx
theorem dh {q:Qu} (h:Sd q) (r:Pr):r∈ef q↔eQ q r=true:=by
 unfold ef eQ;rw [cI,List.mem_append,Bool.or_eq_true,Bool.not_eq_true',bb];constructor
 ·rintro (h1|h1)
  ·obtain ⟨x,hx,rfl⟩:=List.mem_map.1 h1
   right
   rw [jg h.hv.asc hx];exact bb.1 (dC (h.hv.fit x hx).2)
  ·left
   have h2:r∈bZ (q.convs++q.waits):=h1;obtain ⟨x,hx,rfl⟩:=List.mem_map.1 h2;unfold ai;rw [pk h.nd hx];rfl
 ·rintro (h1|h1)
  ·right
   obtain ⟨a,ha⟩:=Option.isSome_iff_exists.1 h1;obtain ⟨x,hx,hp,_⟩:=Aj ha;show r∈bZ (q.convs++q.waits);exact List.mem_map.2 ⟨x,hx,hp⟩
  ·left
   obtain ⟨x,hx,hp,_⟩:=jc h1;exact List.mem_map.2 ⟨x,hx,hp⟩
theorem eE:∀{l:List Qu} {r:Pr},r∈jS l↔∃q∈l,r∈ef q
 | [],r=>by simp [jS]
 | q :: l,r=>by
  show r∈ef q++jS l↔_;rw [List.mem_append,eE];simp
theorem Eff.has {q q':Qu} {p:Pr} (h:Eff q q' p) (hq:eQ q' p=true):eQ q p=true:=by
 unfold eQ at *
 rcases h with ⟨h1,h2⟩|⟨a,h1,_,_⟩
 ·rw [h1,h2] at hq;exact hq
 ·rw [h1];rfl
def dl (t:List Qu):Bool:=f7 t && decide ((aB t).length≤8)
def dN (t:List Qu):List ByteArray:=t.map (·.res.name)
theorem pn:∀{l:List Qu} {p:Option ByteArray},jT p l=true→∀q∈l,av q=true
 | [],_,_,q,hq=>absurd hq (by simp)
 | x :: l,p,h,q,hq=>by
  rw [du] at h;simp only [Bool.and_eq_true] at h;rcases List.mem_cons.1 hq with rfl|hq
  ·exact h.1.1
  ·exact pn h.2 q hq
theorem vK {q':Qu} (hs:av q'=true):∀{l:List Qu} {p:Option ByteArray} {i:Nat} (h:i<l.length),jT p l=true→q'.res.name=l[i].res.name→jT p (l.set i q')=true
 | [],_,_,h,_,_=>absurd h (by simp)
 | x :: l,p,0,h,hv,hn=>by
  rw [du] at hv;simp only [Bool.and_eq_true] at hv;have hn':q'.res.name=x.res.name:=hn;rw [List.set_cons_zero,du,hn'];simp only [Bool.and_eq_true];exact ⟨⟨hs,hv.1.2⟩,hv.2⟩
 | x :: l,p,i+1,h,hv,hn=>by
  rw [du] at hv;simp only [Bool.and_eq_true] at hv;rw [List.set_cons_succ,du];simp only [Bool.and_eq_true];exact ⟨hv.1,vK hs (by simpa using h) hv.2 (by simpa using hn)⟩
def jE (a b:ByteArray):Bool:=Op.bytesLess a.toList b.toList
theorem fU {a b c:ByteArray} (h1:jE a b=true) (h2:jE b c=true):jE a c=true:=by
 unfold jE at *
 rw [bytesLess_eq,decide_eq_true_eq] at *
 exact List.lt_trans h1 h2
theorem dH (a:ByteArray):jE a a=false:=by
 unfold jE;rw [bytesLess_eq,decide_eq_false_iff_not];exact List.lt_irrefl _
theorem jh:∀{l:List Qu} {p:Option ByteArray},jT p l=true→(dN l).Pairwise (fun a b=>jE a b=true)∧∀m,p=some m→∀n∈dN l,jE m n=true
 | [],_,_=>⟨by simp [dN],fun _ _ n hn=>absurd hn (by simp [dN])⟩
 | x :: l,p,h=>by
  rw [du] at h;simp only [Bool.and_eq_true] at h;obtain ⟨h1,h2⟩:=jh h.2;refine ⟨List.pairwise_cons.2 ⟨fun n hn=>h2 _ rfl n hn,h1⟩,?_⟩;intro m hm n hn;subst hm;have h3:jE m x.res.name=true:=h.1.2;rcases List.mem_cons.1 (show n∈x.res.name :: dN l from hn) with rfl|hn
  ·exact h3
  ·exact fU h3 (h2 _ rfl n hn)
theorem bE {t:List Qu} (h:dl t=true):t.length≤8∧jT none t=true∧(aB t).length≤8:=by
 unfold dl f7 at h;simp only [Bool.and_eq_true,decide_eq_true_eq] at h;exact ⟨h.1.1,h.1.2,h.2⟩
theorem vL {t:List Qu} (h:dl t=true):(dN t).Nodup:=by
 have:=(jh (bE h).2.1).1;exact this.imp fun {a b} hab e=>by rw [e,dH] at hab;cases hab
theorem cj {t:List Qu} (h:dl t=true) {q:Qu} (hq:q∈t):av q=true:=pn (bE h).2.1 q hq
theorem po {a b:ByteArray}:(a.toList == b.toList)=true↔a=b:=by
 rw [beq_iff_eq];exact ⟨toList_inj,fun h=>by rw [h]⟩
theorem vM:∀{t:List Qu} {i k:Nat} (h:i<t.length),(dN t).Nodup→bR t[i].res.name k t=((k+i:Nat):Int)
 | [],_,_,h,_=>absurd h (by simp)
 | q :: t,0,k,h,_=>by
  rw [eR];have:(q.res.name.toList == ((q :: t)[0]).res.name.toList)=true:=by simp
  rw [this];simp
 | q :: t,i+1,k,h,hn=>by
  have hn':(q.res.name :: dN t).Nodup:=hn;rw [List.nodup_cons] at hn';rw [eR];have hi:i<t.length:=by simpa using h
  have hne:(q.res.name.toList == ((q :: t)[i+1]).res.name.toList)=false:=by
   cases hc:(q.res.name.toList == ((q :: t)[i+1]).res.name.toList) with
   | false=>rfl
   | true =>
    have e:=po.1 hc;exact absurd (e▸List.mem_map.2 ⟨t[i],List.getElem_mem hi,rfl⟩) hn'.1
  rw [hne,cond_false];have:=vM (k:=k+1) hi hn'.2;simp only [List.getElem_cons_succ];rw [this];omega
theorem ir:∀{t:List Qu} {n:ByteArray} {k:Nat},0≤bR n k t→∃i,∃h:i<t.length,bR n k t=((k+i:Nat):Int)∧t[i].res.name=n
 | [],n,k,h=>by simp [bR] at h
 | q :: t,n,k,h=>by
  rw [eR] at h ⊢;cases hc:(q.res.name.toList == n.toList) with
  | true=>exact ⟨0,by simp,by simp,po.1 hc⟩
  | false =>
   rw [hc,cond_false] at h;rw [cond_false];obtain ⟨i,hi,h1,h2⟩:=ir h;exact ⟨i+1,by simpa using hi,by rw [h1];omega,by simpa using h2⟩
structure TOut (t t':List Qu) (i:Nat) (p:Pr):Prop where
 lt:i<t.length
 set:∃q,t'=t.set i q∧Out t[i] q p
theorem TOut.at {t t':List Qu} {i:Nat} {p:Pr} (h:TOut t t' i p):∃q,t'[i]? = some q∧Out (t[i]'h.lt) q p:=by
 obtain ⟨q,rfl,ho⟩:=h.set;exact ⟨q,by rw [List.getElem?_set_self h.lt],ho⟩
theorem TOut.other {t t':List Qu} {i:Nat} {p:Pr} (h:TOut t t' i p) {j:Nat} (hj:j≠i):t'[j]? = t[j]?:=by
 obtain ⟨q,rfl,_⟩:=h.set;rw [List.getElem?_set_ne (Ne.symm hj)]
theorem TOut.names {t t':List Qu} {i:Nat} {p:Pr} (h:TOut t t' i p):dN t'=dN t:=by
 obtain ⟨q,rfl,ho⟩:=h.set;unfold dN;rw [List.map_set];have e:q.res.name=(t[i]'h.lt).res.name:=by rw [ho.res]
 rw [e];apply List.ext_getElem
 ·simp
 ·intro j h1 h2;rw [List.getElem_set];split
  ·next hij=>subst hij;simp
  ·rfl
theorem sM {t t':List Qu} {i:Nat} {p:Pr} (hv:dl t=true) (h:TOut t t' i p):∀r∈aB t',r=p∨r∈aB t:=by
 obtain ⟨q,rfl,ho⟩:=h.set;intro r hr;unfold aB at hr ⊢;rw [cI,eE] at hr ⊢;obtain ⟨x,hx,hrx⟩:=hr;rcases List.mem_or_eq_of_mem_set hx with hx|rfl
 ·exact .inr ⟨x,hx,hrx⟩
 ·by_cases hrp:r=p
  ·exact .inl hrp
  ·right
   have h1:=(dh (aF ho.ok) r).1 hrx;have hm:t[i]'h.lt∈t:=List.getElem_mem h.lt;exact ⟨_,hm,(dh (aF (cj hv hm)) r).2 ((ho.eff r hrp).has h1)⟩
theorem eF (t:List Qu):(aB t).Nodup:=by
 unfold List.Nodup aB;exact (zM (jS t)).imp fun {a b} (hab:fC a b) (e:a=b)=>by rw [e] at hab;exact bI b hab
theorem TOut.valid {t t':List Qu} {i:Nat} {p:Pr} (hv:dl t=true) (h:TOut t t' i p) (hp:(aB t).length≤7∨p∈aB t∨p ∉ aB t'):dl t'=true:=by
 have hsub:=sM hv h;obtain ⟨q,rfl,ho⟩:=h.set;obtain ⟨h1,h2,h3⟩:=bE hv;unfold dl f7;simp only [Bool.and_eq_true,decide_eq_true_eq];refine ⟨⟨by simpa using h1,vK ho.ok h.lt h2 (by rw [ho.res])⟩,?_⟩;rcases hp with hp|hp|hp
 ·have h4:=gf (m:=p :: aB t) (eF (t.set i q)) fun r hr=>by
   rcases hsub r hr with e|e
   ·simp [e]
   ·simp [e]
  rw [List.length_cons] at h4;omega
 ·have h4:=gf (m:=aB t) (eF (t.set i q)) fun r hr=>by
   rcases hsub r hr with e|e
   ·rw [e];exact hp
   ·exact e
  omega
 ·have h4:=gf (m:=aB t) (eF (t.set i q)) fun r hr=>by
   rcases hsub r hr with e|e
   ·exact absurd (e▸hr) hp
   ·exact e
  omega
theorem pq {r:Rs} {a:Am} (h:aC r a=true):bN r ⟨0,0⟩ a=a:=by
 have hs:aU r=true:=by unfold aC at h;rw [Bool.and_eq_true] at h;exact h.1
 have hp:=cw h;have hz:=dC h;have p0:aX r ⟨0,0⟩=true:=by unfold aX aG;rw [hs];rfl
 have z0:aG ⟨0,0⟩=true:=rfl;have c1:a8 r ⟨0,0⟩ a=false:=by unfold a8;rw [p0,hp,hz,z0];simp
 have c2:a8 r a ⟨0,0⟩=true:=by unfold a8;rw [p0,hp,z0];simp
 unfold bN;rw [p0,hp,c1,c2];rfl
theorem ub {q:Qu} {p:Pr} {a:Am} {prio:Int} (h:(bv q p a prio).2.2=0):av q=true∧j8 p=true∧(0≤prio∧prio≤7)∧aC q.res a=true∧ai q p=none∧
    ((a8 q.res (ao q.holds p) a=true∧bv q p a prio=ic (q,[]))∨
     (a8 q.res (ao q.holds p) a=false∧ao q.holds p≠⟨0,0⟩∧bv q p a prio=ic (dn { q with convs:=q.convs++[⟨p,bN q.res (ao q.holds p) a,0,0⟩] }))∨
     (a8 q.res (ao q.holds p) a=false∧ao q.holds p=⟨0,0⟩∧q.holds.length+q.waits.length<8∧rk ⟨p,a,prio,0⟩=true∧bv q p a prio=ic (dn { q with waits:=gS q.waits ⟨p,a,prio,0⟩ }))):=by
  unfold bv at h ⊢;cases hS:av q with
  | false=>rw [hS] at h;simp [bP] at h
  | true =>
    have hd:=aF hS;rw [hS] at h;simp only [Bool.not_true,cond_false] at h ⊢;cases hA:j8 p && decide (0≤prio) && decide (prio≤7) with
    | false=>rw [hA] at h;simp [bP] at h
    | true =>
      rw [hA] at h;simp only [Bool.not_true,cond_false] at h ⊢;simp only [Bool.and_eq_true,decide_eq_true_eq] at hA;cases hF:aC q.res a with
      | false=>rw [hF] at h;simp [bP] at h
      | true =>
        rw [hF] at h;simp only [Bool.not_true,cond_false] at h ⊢;cases hW:ai q p with
        | some b=>rw [hW] at h;simp [bP] at h
        | none =>
          rw [hW] at h;simp only [Option.isSome_none,cond_false] at h ⊢;refine ⟨trivial,hA.1.1,⟨hA.1.2,hA.2⟩,trivial,trivial,?_⟩;cases hC:a8 q.res (ao q.holds p) a with
          | true=>exact .inl ⟨rfl,rfl⟩
          | false =>
            rw [hC] at h;simp only [cond_false] at h ⊢
            right
            cases hZ:aG (ao q.holds p) with
            | false=>exact .inl ⟨trivial,bb.1 hZ,rfl⟩
            | true =>
              rw [hZ] at h;simp only [Bool.not_true,cond_false] at h ⊢
              right
              by_cases hl:8≤q.holds.length+q.waits.length
              · rw [decide_eq_true hl] at h;simp [bP] at h
              · rw [decide_eq_false hl] at h ⊢
                simp only [cond_false] at h ⊢;obtain ⟨e1,hv⟩:=ob hd hW hF hA.1.1 ⟨hA.1.2,hA.2⟩ (by omega);rw [e1];simp only [decide_true,Bool.not_true,cond_false];exact ⟨by trivial,of_decide_eq_true hZ,by omega,hv,by trivial⟩
theorem vN {q:Qu} {p:Pr} {a:Am} {prio:Int} (hS:av q=true) (hp:j8 p=true) (hr:0≤prio∧prio≤7) (hF:aC q.res a=true) (hW:ai q p=none) (hl:ao q.holds p≠⟨0,0⟩∨q.holds.length+q.waits.length<8):(bv q p a prio).2.2=0:=by
 have hd:=aF hS;unfold bv;rw [hS,hp,hF,hW,decide_eq_true hr.1,decide_eq_true hr.2];simp only [Bool.not_true,Bool.and_self,cond_false,Option.isSome_none];cases hC:a8 q.res (ao q.holds p) a with
 | true=>rfl
 | false =>
  simp only [cond_false];cases hZ:aG (ao q.holds p) with
  | false=>rfl
  | true =>
   have h0:ao q.holds p=⟨0,0⟩:=of_decide_eq_true hZ;have hl':q.holds.length+q.waits.length<8:=by
    rcases hl with hl|hl
    ·exact absurd h0 hl
    ·exact hl
   obtain ⟨e1,_⟩:=ob hd hW hF hp hr hl';rw [decide_eq_false (show ¬8≤q.holds.length+q.waits.length by omega),e1];rfl
structure ClOut (q q':Qu) (p:Pr) (a:Am) (prio:Int):Prop where
 out:Out q q' p
 own:(a8 q.res (ao q.holds p) a=true∧q'=q)∨(a8 q.res (ao q.holds p) a=false∧((ao q'.holds p=ao q.holds p∧ai q' p=some (bN q.res (ao q.holds p) a))∨(ao q'.holds p=bN q.res (ao q.holds p) a∧ai q' p=none)))
 pr:∀x∈q'.waits,x.proc=p→x.prio=prio
theorem xC {q:Qu} {p:Pr} {a:Am} {prio:Int} (h:(bv q p a prio).2.2=0):ClOut q (bv q p a prio).1 p a prio:=by
 have ho:=xA h;obtain ⟨hS,hvp,hr,hF,hW,hc⟩:=ub h;have hd:=aF hS;have hno:=dv.1 hW;rcases hc with ⟨hC,e⟩|⟨hC,h0,e⟩|⟨hC,h0,hl,hv,e⟩
 ·rw [e] at ho ⊢;exact ⟨ho,.inl ⟨hC,rfl⟩,fun x hx hp=>absurd hp (hno x (by have h:x∈q.waits:=hx;simp [h]))⟩
 ·rw [e] at ho ⊢;have hs:=hd.cons h0 hW hF hC;refine ⟨ho,.inr ⟨hC,?_⟩,fun x hx hp=>?_⟩
  ·have hw:ai { q with convs:=q.convs++[⟨p,bN q.res (ao q.holds p) a,0,0⟩] } p=some (bN q.res (ao q.holds p) a):=by
    unfold ai;have hm:(⟨p,bN q.res (ao q.holds p) a,0,0⟩:Wt)∈q.convs++[⟨p,bN q.res (ao q.holds p) a,0,0⟩]++q.waits:=by simp
    exact pk (x:=⟨p,bN q.res (ao q.holds p) a,0,0⟩) hs.nd hm
   rcases oa hs p with ⟨h1,h2⟩|⟨b,h1,h2,h3⟩
   ·exact .inl ⟨h1,h2.trans hw⟩
   ·rw [hw] at h1;injection h1 with h1;exact .inr ⟨h2.trans h1.symm,h3⟩
  ·have h1:=mB hx;exact absurd hp (hno x (by have h:x∈q.waits:=h1;simp [h]))
 ·rw [e] at ho ⊢;have hs:=hd.ins (w:=⟨p,a,prio,0⟩) h0 hW hF hv hl;have hJ:bN q.res (ao q.holds p) a=a:=by rw [h0];exact pq hF
  refine ⟨ho,.inr ⟨hC,?_⟩,fun x hx hp=>?_⟩
  ·rw [hJ];have hw:ai { q with waits:=gS q.waits ⟨p,a,prio,0⟩ } p=some a:=by
    unfold ai;have hm:(⟨p,a,prio,0⟩:Wt)∈q.convs++gS q.waits ⟨p,a,prio,0⟩:=by
     rw [List.mem_append]
     right
     unfold gS;simp
    exact pk (x:=⟨p,a,prio,0⟩) hs.nd hm
   rcases oa hs p with ⟨h1,h2⟩|⟨b,h1,h2,h3⟩
   ·exact .inl ⟨h1,h2.trans hw⟩
   ·rw [hw] at h1;injection h1 with h1;exact .inr ⟨h2.trans h1.symm,h3⟩
  ·rcases pj (mB hx) with rfl|h1|⟨y,h1,rfl,_,_⟩
   ·rfl
   ·exact absurd hp (hno x (by simp [h1]))
   ·exact absurd (show y.proc=p from hp) (hno y (by simp [h1]))
theorem ru {q:Qu} {p:Pr} (h:(be q p).2.2=0):av q=true∧(ai q p).isSome=true∧be q p=ic (dn { q with convs:=bV q.convs p,waits:=bV q.waits p }):=by
 unfold be at h ⊢;cases hS:av q with
 | false=>rw [hS] at h;simp [bP] at h
 | true =>
  rw [hS] at h;simp only [Bool.not_true,cond_false] at h ⊢;cases hW:(ai q p).isSome with
  | false=>rw [hW] at h;simp [bP] at h
  | true=>exact ⟨by trivial,by trivial,by trivial⟩
theorem uc {q:Qu} {p:Pr} (hS:av q=true) (hW:(ai q p).isSome=true):(be q p).2.2=0:=by unfold be;rw [hS,hW];rfl
theorem iu {r:Qu} {p:Pr} (hs:Sd r) (hw:ai r p=none):ao (dn r).1.holds p=ao r.holds p∧ai (dn r).1 p=none:=by
 rcases oa hs p with ⟨h1,h2⟩|⟨b,h1,_⟩
 ·exact ⟨h1,h2.trans hw⟩
 ·rw [hw] at h1;cases h1
theorem vO {q:Qu} {p:Pr} (h:(be q p).2.2=0):Out q (be q p).1 p∧ao (be q p).1.holds p=ao q.holds p∧ai (be q p).1 p=none:=by
 have ho:=vI h;obtain ⟨hS,_,e⟩:=ru h;have hd:=aF hS;rw [e] at ho ⊢;exact ⟨ho,iu (hd.drop p) (by rw [iq,if_pos rfl])⟩
theorem ud {q:Qu} {p:Pr} {a:Am} (h:(bk q p a).2.2=0):av q=true∧ao q.holds p≠⟨0,0⟩∧ai q p=none∧a8 q.res (ao q.holds p) a=true∧((ao q.holds p=a∧bk q p a=ic (q,[]))∨(ao q.holds p≠a∧bk q p a=ic (dn { q with holds:=cm q.holds p a }))):=by
 unfold bk at h ⊢;cases hS:av q with
 | false=>rw [hS] at h;simp [bP] at h
 | true =>
  rw [hS] at h;simp only [Bool.not_true,cond_false] at h ⊢;cases hZ:aG (ao q.holds p) with
  | true=>rw [hZ] at h;simp [bP] at h
  | false =>
   rw [hZ] at h;simp only [cond_false] at h ⊢;cases hW:ai q p with
   | some b=>rw [hW] at h;simp [bP] at h
   | none =>
    rw [hW] at h;simp only [Option.isSome_none,cond_false] at h ⊢;cases hC:a8 q.res (ao q.holds p) a with
    | false=>rw [hC] at h;simp [bP] at h
    | true =>
     simp only [Bool.not_true,cond_false];refine ⟨trivial,bb.1 hZ,trivial,trivial,?_⟩;by_cases hE:ao q.holds p=a
     ·rw [decide_eq_true hE];exact .inl ⟨hE,rfl⟩
     ·rw [decide_eq_false hE];exact .inr ⟨hE,rfl⟩
theorem vP {q:Qu} {p:Pr} {a:Am} (hS:av q=true) (h0:ao q.holds p≠⟨0,0⟩) (hW:ai q p=none) (hC:a8 q.res (ao q.holds p) a=true):(bk q p a).2.2=0:=by
 unfold bk;rw [hS,bb.2 h0,hW,hC];simp only [Bool.not_true,cond_false,Option.isSome_none];cases decide (ao q.holds p=a) <;> rfl
theorem xD {q:Qu} {p:Pr} {a:Am} (h:(bk q p a).2.2=0):Out q (bk q p a).1 p∧ao (bk q p a).1.holds p=a∧ai (bk q p a).1 p=none:=by
 have ho:=xB h;obtain ⟨hS,h0,hW,hC,hc⟩:=ud h;have hd:=aF hS;rcases hc with ⟨hE,e⟩|⟨_,e⟩
 ·rw [e] at ho ⊢;exact ⟨ho,hE,hW⟩
 ·rw [e] at ho ⊢;have h1:=iu (hd.lower hW h0 hC) (p:=p) hW;refine ⟨ho,h1.1.trans ?_,h1.2⟩;show ao (cm q.holds p a) p=a;rw [dZ,if_pos rfl]
theorem rv {q:Qu} {p:Pr} (h:(aV q p).2.2=0):av q=true∧eQ q p=true∧aV q p=ic (dn { q with holds:=cm q.holds p ⟨0,0⟩,convs:=bV q.convs p,waits:=bV q.waits p }):=by
 unfold aV at h ⊢;cases hS:av q with
 | false=>rw [hS] at h;simp [bP] at h
 | true =>
  rw [hS] at h;simp only [Bool.not_true,cond_false] at h ⊢;cases hH:eQ q p with
  | false=>rw [hH] at h;simp [bP] at h
  | true=>exact ⟨by trivial,by trivial,by trivial⟩
theorem ue {q:Qu} {p:Pr} (hS:av q=true) (hH:eQ q p=true):(aV q p).2.2=0:=by unfold aV;rw [hS,hH];rfl
theorem vQ {q:Qu} {p:Pr} (h:(aV q p).2.2=0):Out q (aV q p).1 p∧ao (aV q p).1.holds p=⟨0,0⟩∧ai (aV q p).1 p=none:=by
 have ho:=vJ h;obtain ⟨hS,_,e⟩:=rv h;have hd:=aF hS;rw [e] at ho ⊢;have hw:ai { q with holds:=cm q.holds p ⟨0,0⟩,convs:=bV q.convs p,waits:=bV q.waits p } p=none:=by
  have:=iq q p p;rw [if_pos rfl] at this;exact this
 have h1:=iu (hd.gone p) hw;refine ⟨ho,h1.1.trans ?_,h1.2⟩;show ao (cm q.holds p ⟨0,0⟩) p=_;rw [dZ,if_pos rfl]
structure Ev where
 kind:Int
 proc:Pr
 name:ByteArray
 am:Am
deriving DecidableEq
def aM (n:ByteArray) (l:List Ho):List Ev:=l.map fun h=>⟨1,h.proc,n,h.am⟩
def eo (e:Int):List Qu×List Ev×Int:=([],[],e)
def gE (t:List Qu) (n:ByteArray):Nat:=(bR n 0 t).toNat
def bt (t:List Qu) (p:Pr) (a:Tm) (prio:Int):List Qu×List Ev×Int :=
 bif !dl t then eo 2 else bif decide (bR a.name 0 t<0) then eo 10 else
 bif decide ((aB t).length=8) && !decide (p∈aB t) then eo 4 else
 bif !decide ((bv (t.getD (gE t a.name) iI) p a.am prio).2.2=0) then eo (bv (t.getD (gE t a.name) iI) p a.am prio).2.2 else
 (t.set (gE t a.name) (bv (t.getD (gE t a.name) iI) p a.am prio).1,aM a.name (bv (t.getD (gE t a.name) iI) p a.am prio).2.1,0)
def bz (t:List Qu) (p:Pr) (n:ByteArray):List Qu×List Ev×Int :=
 bif !dl t then eo 2 else bif decide (bR n 0 t<0) then eo 10 else
 bif !decide ((be (t.getD (gE t n) iI) p).2.2=0) then eo (be (t.getD (gE t n) iI) p).2.2 else
 (t.set (gE t n) (be (t.getD (gE t n) iI) p).1,aM n (be (t.getD (gE t n) iI) p).2.1,0)
def cg (t:List Qu) (p:Pr) (a:Tm):List Qu×List Ev×Int :=
 bif !dl t then eo 2 else bif decide (bR a.name 0 t<0) then eo 10 else
 bif !decide ((bk (t.getD (gE t a.name) iI) p a.am).2.2=0) then eo (bk (t.getD (gE t a.name) iI) p a.am).2.2 else
 (t.set (gE t a.name) (bk (t.getD (gE t a.name) iI) p a.am).1,(bif decide (ao (t.getD (gE t a.name) iI).holds p=a.am) then [] else [⟨3,p,a.name,a.am⟩])++aM a.name (bk (t.getD (gE t a.name) iI) p a.am).2.1,0)
def aN (p:Pr):List Qu→List Qu×List Ev
 | []=>([],[])
 | q :: l=>bif !eQ q p then (q :: (aN p l).1,(aN p l).2) else
  ((aV q p).1 :: (aN p l).1,(bif aG (ao q.holds p) then [] else [⟨3,p,q.res.name,⟨0,0⟩⟩])++aM (aV q p).1.res.name (aV q p).2.1++(aN p l).2)
def b9 (t:List Qu) (p:Pr):List Qu×List Ev:=bif !dl t then ([],[]) else aN p t
structure En where
 name:ByteArray
 before:Am
 after:Am
deriving DecidableEq
structure Sv where
 label:Int
 at_:Int
deriving DecidableEq
def aZ (a b:ByteArray):Bool:=a.toList == b.toList
theorem aP {a b:ByteArray}:aZ a b=true↔a=b:=po
theorem bJ {a b:ByteArray}:aZ a b=false↔a≠b:=by
 rw [←Bool.not_eq_true,aP]
def di (n:ByteArray):Am→List En→Am
 | a,[]=>a
 | a,e :: l=>di n (bif aZ e.name n then e.after else a) l
def ay (l:List En) (n:ByteArray):Am:=di n ⟨0,0⟩ l
theorem kt (n:ByteArray):∀(l m:List En) (a:Am),di n a (l++m)=di n (di n a l) m
 | [],_,_=>rfl
 | e :: l,m,a=>kt n l m _
theorem iv (l:List En) (e:En) (n:ByteArray):ay (l++[e]) n=bif aZ e.name n then e.after else ay l n:=by
 unfold ay;rw [kt];rfl
def dI (a b:Am):Bool:=br b && !decide (a=b) && (aG a || br a && (bif !decide (a.mode=0) then cS b.mode a.mode else decide (a.units<b.units)))
def iJ (pre:List En):List En→Bool
 | []=>true
 | e :: l=>cE e.name.toList && decide (e.before=ay pre e.name) && dI e.before e.after && iJ (pre++[e]) l
def es (n:ByteArray):List ByteArray→Bool
 | []=>false
 | m :: l=>aZ m n || es n l
theorem fg {n:ByteArray}:∀{l:List ByteArray},es n l=true↔n∈l
 | []=>by simp [es]
 | m :: l=>by
  show (aZ m n || es n l)=true↔_;rw [Bool.or_eq_true,aP,fg,List.mem_cons];exact or_congr_left ⟨Eq.symm,Eq.symm⟩
def ku (n:ByteArray):List ByteArray→List ByteArray
 | []=>[n]
 | m :: l=>bif jE n m then n :: m :: l else m :: ku n l
theorem lG {n x:ByteArray}:∀{l:List ByteArray},x∈ku n l↔x=n∨x∈l
 | []=>by simp [ku]
 | m :: l=>by
  show x∈(bif jE n m then n :: m :: l else m :: ku n l)↔_;cases jE n m with
  | true=>simp
  | false =>
   rw [cond_false,List.mem_cons,lG,List.mem_cons];constructor
   ·rintro (h|h|h) <;> simp [h]
   ·rintro (h|h|h) <;> simp [h]
def dD:List ByteArray→List En→List ByteArray
 | acc,[]=>acc
 | acc,e :: l=>dD (bif es e.name acc then acc else ku e.name acc) l
def bS (l:List En):List ByteArray:=dD [] l
theorem no {x:ByteArray}:∀{l:List En} {acc:List ByteArray},x∈dD acc l↔x∈acc∨∃e∈l,e.name=x
 | [],acc=>by simp [dD]
 | e :: l,acc=>by
  show x∈dD _ l↔_;rw [no];have h:x∈(bif es e.name acc then acc else ku e.name acc)↔x∈acc∨e.name=x:=by
   cases hh:es e.name acc with
   | true =>
    rw [cond_true];constructor
    ·exact .inl
    ·rintro (h|h)
     ·exact h
     ·exact h▸fg.1 hh
   | false =>
    rw [cond_false,lG];constructor
    ·rintro (h|h)
     ·exact .inr h.symm
     ·exact .inl h
    ·rintro (h|h)
     ·exact .inr h
     ·exact .inl h.symm
  rw [h];constructor
  ·rintro ((h|h)|⟨f,h1,h2⟩)
   ·exact .inl h
   ·exact .inr ⟨e,by simp,h⟩
   ·exact .inr ⟨f,by simp [h1],h2⟩
  ·rintro (h|⟨f,h1,h2⟩)
   ·exact .inl (.inl h)
   ·rcases List.mem_cons.1 h1 with rfl|h1
    ·exact .inl (.inr h2)
    ·exact .inr ⟨f,h1,h2⟩
theorem dj {l:List En} {x:ByteArray}:x∈bS l↔∃e∈l,e.name=x:=by unfold bS;rw [no];simp
def nX (l:List ByteArray):Prop:=l.Pairwise fun a b=>jE a b=true
theorem lH {a b:ByteArray} (h1:jE a b=false) (h2:a≠b):jE b a=true:=by
 unfold jE at *
 rw [bytesLess_eq,decide_eq_false_iff_not] at h1;rw [bytesLess_eq,decide_eq_true_eq];rcases Std.lt_trichotomy a.toList b.toList with h|h|h
 ·exact absurd h h1
 ·exact absurd (toList_inj h) h2
 ·exact h
theorem vR {n:ByteArray}:∀{l:List ByteArray},nX l→n ∉ l→nX (ku n l)
 | [],_,_=>by simp [ku,nX]
 | m :: l,h,hn=>by
  obtain ⟨h1,h2⟩:=List.pairwise_cons.1 h;show nX (bif jE n m then n :: m :: l else m :: ku n l);cases hc:jE n m with
  | true =>
   refine List.pairwise_cons.2 ⟨fun x hx=>?_,h⟩;rcases List.mem_cons.1 hx with rfl|hx
   ·exact hc
   ·exact fU hc (h1 x hx)
  | false =>
   have hm:jE m n=true:=lH hc (fun e=>hn (by simp [e]));refine List.pairwise_cons.2 ⟨fun x hx=>?_,vR h2 (fun hx=>hn (by simp [hx]))⟩;rcases lG.1 hx with rfl|hx
   ·exact hm
   ·exact h1 x hx
theorem np:∀{l:List En} {acc:List ByteArray},nX acc→nX (dD acc l)
 | [],_,h=>h
 | e :: l,acc,h=>by
  refine np (l:=l) ?_;cases hh:es e.name acc with
  | true=>exact h
  | false=>exact vR h fun hm=>by rw [fg.2 hm] at hh;cases hh
theorem eV (l:List En):nX (bS l):=np (by simp [nX])
def aQ (n:Int):Nat→List Sv→Int
 | _,[]=>-1
 | k,s :: l=>bif decide (s.label=n) then (k:Int) else aQ n (k+1) l
def uf (all:List Sv) (n:Int):Nat→Int→List Sv→Bool
 | _,_,[]=>true
 | k,at_,s :: l=>decide (1≤s.label) && decide (s.label≤99) && decide (0≤s.at_) && decide (s.at_≤n) && decide (at_≤s.at_) && decide (aQ s.label 0 all=(k:Int)) && uf all n (k+1) s.at_ l
def pt (l:List En) (s:List Sv):Bool:=decide (l.length≤72) && decide (s.length≤4) && iJ [] l && decide ((bS l).length≤8) && uf s l.length 0 0 s
structure EntOk (pre:List En) (e:En):Prop where
 nm:cE e.name.toList=true
 bef:e.before=ay pre e.name
 gr:dI e.before e.after=true
def Ents (l:List En):Prop:=∀k (h:k<l.length),EntOk (l.take k) l[k]
theorem sN:∀(l pre:List En),iJ pre l=true↔∀k (h:k<l.length),EntOk (pre++l.take k) l[k]
 | [],_=>by simp [iJ]
 | e :: l,pre=>by
  show (cE e.name.toList && decide (e.before=ay pre e.name) && dI e.before e.after && iJ (pre++[e]) l)=true↔_;simp only [Bool.and_eq_true,decide_eq_true_eq,sN l];constructor
  ·rintro ⟨⟨⟨h1,h2⟩,h3⟩,h4⟩ k hk;cases k with
   | zero=>simpa using ⟨h1,h2,h3⟩
   | succ k =>
    have:=h4 k (by simpa using hk);simpa [List.append_assoc] using this
  ·intro h;have h0:=h 0 (by simp);simp only [List.take_zero,List.append_nil,List.getElem_cons_zero] at h0;refine ⟨⟨⟨h0.nm,h0.bef⟩,h0.gr⟩,fun k hk=>?_⟩;have:=h (k+1) (by simpa using hk);simpa [List.append_assoc] using this
theorem vS {l:List En}:iJ [] l=true↔Ents l:=by
 rw [sN];unfold Ents;simp
theorem Ents.snoc {l:List En} {e:En}:Ents (l++[e])↔Ents l∧EntOk l e:=by
 constructor
 ·intro h;refine ⟨fun k hk=>?_,?_⟩
  ·have h1:=h k (by simp;omega);rw [List.take_append_of_le_length (by omega),List.getElem_append_left hk] at h1;exact h1
  ·have h1:=h l.length (by simp);simpa using h1
 ·rintro ⟨h1,h2⟩ k hk;by_cases hl:k<l.length
  ·rw [List.take_append_of_le_length (by omega),List.getElem_append_left hl];exact h1 k hl
  ·have:k=l.length:=by simp at hk;omega
   subst this;simpa using h2
theorem Ents.take {l:List En} (h:Ents l) (n:Nat):Ents (l.take n):=by
 intro k hk;have h1:k<l.length:=by rw [List.length_take] at hk;omega
 have h2:=h k h1;have h3:(l.take n).take k=l.take k:=by rw [List.take_take];congr 1;rw [List.length_take] at hk;omega
 rw [h3,List.getElem_take];exact h2
theorem lI {P:List En→Prop} (h0:P []) (hs:∀l e,Ents l→EntOk l e→P l→P (l++[e])):∀l,Ents l→P l:=by
 intro l;have:∀n (l:List En),l.length=n→Ents l→P l:=by
  intro n;induction n with
  | zero=>intro l hl _;rw [List.eq_nil_of_length_eq_zero hl];exact h0
  | succ n ih =>
   intro l hl h;have hne:l≠[]:=by rintro rfl;simp at hl
   have e:=List.dropLast_concat_getLast hne;rw [←e] at h;obtain ⟨h1,h2⟩:=Ents.snoc.1 h;rw [←e];exact hs _ _ h1 h2 (ih _ (by rw [List.length_dropLast];omega) h1)
 exact this _ l rfl
def Fp (b a:Am):Prop:=a=b∨(br a=true∧br b=true∧((a.mode≠0∧cS b.mode a.mode=true)∨(a.mode=0∧b.mode=0∧a.units<b.units)))
theorem cL {a:Am} (h:br a=true):(bM a.mode=true∧a.units=0)∨(a.mode=0∧1≤a.units∧a.units≤8):=by
 unfold br at h;simp only [Bool.or_eq_true,Bool.and_eq_true,decide_eq_true_eq] at h;rcases h with h|h
 ·exact .inl h
 ·exact .inr ⟨h.1.1,h.1.2,h.2⟩
theorem eW {m:Int}:bM m=true↔1≤m∧m≤5:=by unfold bM;simp
theorem lJ {a b:Int}:cS a b=true↔(1≤a∧a≤5)∧(1≤b∧b≤5)∧(a=b∨a=5∨b=1∨(a=4∧b≠5)):=by
 unfold cS;simp only [Bool.and_eq_true,Bool.or_eq_true,decide_eq_true_eq,Bool.not_eq_true',decide_eq_false_iff_not,eW];constructor
 ·rintro ⟨⟨h1,h2⟩,h3⟩;exact ⟨h1,h2,by rcases h3 with ((h|h)|h)|h <;> simp [h]⟩
 ·rintro ⟨h1,h2,h3⟩;exact ⟨⟨h1,h2⟩,by rcases h3 with h|h|h|h <;> simp [h]⟩
theorem lK {a b:Am} (h:dI a b=true):br b=true∧a≠b∧(a=⟨0,0⟩∨(br a=true∧Fp b a)):=by
 unfold dI at h;simp only [Bool.and_eq_true,Bool.not_eq_true',decide_eq_false_iff_not,Bool.or_eq_true] at h;obtain ⟨⟨h1,h2⟩,h3⟩:=h;refine ⟨h1,h2,?_⟩;rcases h3 with h3|⟨h3,h4⟩
 ·exact .inl (of_decide_eq_true h3)
 ·refine .inr ⟨h3,.inr ⟨h3,h1,?_⟩⟩;by_cases hm:a.mode=0
  ·rw [decide_eq_true hm,Bool.not_true,cond_false,decide_eq_true_eq] at h4;refine .inr ⟨hm,?_,h4⟩;rcases cL h1 with ⟨h5,h6⟩|⟨h5,_⟩
   ·rcases cL h3 with ⟨h7,_⟩|⟨_,h7,_⟩
    ·rw [hm] at h7;exact absurd h7 (by decide)
    ·omega
   ·exact h5
  ·rw [decide_eq_false hm,Bool.not_false,cond_true] at h4;exact .inl ⟨hm,h4⟩
theorem Ao {a b c:Am} (h1:Fp c b) (h2:Fp b a):Fp c a:=by
 rcases h1 with rfl|⟨u1,u2,h1⟩
 ·exact h2
 ·rcases h2 with rfl|⟨u3,_,h2⟩
  ·exact .inr ⟨u1,u2,h1⟩
  ·refine .inr ⟨u3,u2,?_⟩;rcases h2 with ⟨h3,h4⟩|⟨h3,h4,h5⟩
   ·rcases h1 with ⟨h6,h7⟩|⟨h6,_,_⟩
    ·refine .inl ⟨h3,?_⟩;rw [lJ] at h4 h7 ⊢;omega
    ·rw [lJ] at h4;omega
   ·rcases h1 with ⟨h6,_⟩|⟨_,h6,h7⟩
    ·exact absurd h4 h6
    ·exact .inr ⟨h3,h6,by omega⟩
def BX (a:Am):Int:=a.mode+a.units
theorem BY {a b:Am} (h:dI a b=true):BX a<BX b∧BX b≤8:=by
 obtain ⟨h1,h2,h3⟩:=lK h;obtain ⟨am,au⟩:=a;obtain ⟨bm,bu⟩:=b;unfold BX;have hb:=cL h1;simp only [eW] at hb;dsimp only at *
 rcases h3 with h3|⟨h3,h4⟩
 ·injection h3 with e1 e2;subst e1;subst e2;omega
 ·have ha:=cL h3;simp only [eW] at ha;rcases h4 with h4|⟨_,_,h4⟩
  ·exact absurd h4 h2
  ·dsimp only at h4;rcases h4 with ⟨h5,h6⟩|⟨h5,h6,h7⟩
   ·rw [lJ] at h6;have:¬(am=bm∧au=bu):=fun e=>h2 (by rw [e.1,e.2]);omega
   ·omega
theorem sO {l:List En} (h:Ents l) (n:ByteArray):∀k,ay (l.take k) n=⟨0,0⟩∨Fp (ay l n) (ay (l.take k) n):=by
 refine lI (P:=fun l=>∀k,ay (l.take k) n=⟨0,0⟩∨Fp (ay l n) (ay (l.take k) n)) (fun k=>.inl (by simp [ay,di])) ?_ l h;intro l e _ he ih k;by_cases hk:k≤l.length
 ·rw [List.take_append_of_le_length hk,iv];rcases ih k with h1|h1
  ·exact .inl h1
  ·cases hn:aZ e.name n with
   | false=>exact .inr h1
   | true =>
    have hnn:=aP.1 hn;subst hnn;rw [cond_true];obtain ⟨_,_,h2⟩:=lK he.gr;rw [he.bef] at h2;rcases h2 with h2|⟨_,h2⟩
    ·rw [h2] at h1;rcases h1 with h1|⟨h1,h3,_⟩
     ·exact .inl h1
     ·exact absurd h3 (by decide)
    ·exact .inr (Ao h2 h1)
 ·rw [List.take_of_length_le (by simp;omega)];exact .inr (.inl rfl)
theorem vT {l:List En} (h:Ents l) (n:ByteArray):((l.filter fun e=>aZ e.name n).length:Int)≤BX (ay l n)∧BX (ay l n)≤8:=by
 refine lI (P:=fun l=>((l.filter fun e=>aZ e.name n).length:Int)≤BX (ay l n)∧BX (ay l n)≤8) ⟨by simp [ay,di,BX],by simp [ay,di,BX]⟩ ?_ l h;intro l e _ he ih;rw [iv,List.filter_append,List.length_append];cases hn:aZ e.name n with
 | false =>
  have:[e].filter (fun e=>aZ e.name n)=[]:=by simp [hn]
  rw [this];simpa using ih
 | true =>
  have hnn:=aP.1 hn;subst hnn;have:[e].filter (fun x=>aZ x.name e.name)=[e]:=by simp [aZ]
  rw [this,cond_true];have h1:=BY he.gr;rw [he.bef] at h1;simp only [List.length_singleton];omega
theorem pu {α:Type} (p:α→Bool):∀l:List α,l.length=(l.filter p).length+(l.filter fun x=>!p x).length
 | []=>rfl
 | x :: l=>by
  have:=pu p l;rw [List.filter_cons,List.filter_cons,List.length_cons];cases p x with
  | true=>simp;omega
  | false=>simp;omega
theorem sP:∀(ns:List ByteArray) (l:List En),(∀e∈l,e.name∈ns)→(∀n∈ns,(l.filter fun e=>aZ e.name n).length≤8)→l.length≤8*ns.length
 | [],l,h,_=>by
  cases l with
  | nil=>simp
  | cons e l=>exact absurd (h e (by simp)) (by simp)
 | n :: ns,l,h,hc=>by
  have h1:=sP ns (l.filter fun e=>!aZ e.name n) (fun e he=>by
   have h2:=(List.mem_filter.1 he);rcases List.mem_cons.1 (h e h2.1) with h3|h3
   ·have:=h2.2;rw [Bool.not_eq_true',bJ] at this;exact absurd h3 this
   ·exact h3) (fun m hm=>Nat.le_trans (((List.filter_sublist (p:=fun e:En=>!aZ e.name n) (l:=l)).filter fun e=>aZ e.name m).length_le) (hc m (by simp [hm])))
  have h2:=hc n (by simp);have h3:=pu (fun e:En=>aZ e.name n) l;rw [List.length_cons];omega
theorem vU {l:List En} (h:Ents l) (hn:(bS l).length≤8):l.length≤64:=by
 have:=sP (bS l) l (fun e he=>dj.2 ⟨e,he,rfl⟩) (fun n _=>by have:=vT h n;omega);omega
structure Lg where
 entries:List En
 saves:List Sv
deriving DecidableEq
def sQ (g:Lg):Bool:=pt g.entries g.saves
def Lg.zero:Lg:=⟨[],[]⟩
structure Svs (s:List Sv) (n:Int):Prop where
 lab:∀x∈s,(1≤x.label∧x.label≤99)∧0≤x.at_∧x.at_≤n
 ord:s.Pairwise fun a b=>a.at_≤b.at_
 nd:(s.map (·.label)).Nodup
theorem nr {n:Int}:∀{l:List Sv} {k:Nat},(∀x∈l,x.label≠n)→aQ n k l = -1
 | [],_,_=>rfl
 | x :: l,k,h=>by
  show (bif decide (x.label=n) then (k:Int) else aQ n (k+1) l) = -1;rw [decide_eq_false (h x (by simp)),cond_false];exact nr fun y hy=>h y (by simp [hy])
theorem ji {n:Int}:∀{l:List Sv} {k:Nat},0≤aQ n k l→∃i,∃h:i<l.length,aQ n k l=((k+i:Nat):Int)∧l[i].label=n
 | [],k,h=>by simp [aQ] at h
 | x :: l,k,h=>by
  have e:aQ n k (x :: l)=bif decide (x.label=n) then (k:Int) else aQ n (k+1) l:=rfl;rw [e] at h ⊢;by_cases hx:x.label=n
  ·exact ⟨0,by simp,by rw [decide_eq_true hx];simp,hx⟩
  ·rw [decide_eq_false hx,cond_false] at h ⊢;obtain ⟨i,hi,h1,h2⟩:=ji h;exact ⟨i+1,by simpa using hi,by rw [h1];omega,by simpa using h2⟩
theorem xE {n:Int} {l:List Sv} {k:Nat}:aQ n k l<0↔∀x∈l,x.label≠n:=by
 constructor
 ·intro h x hx e;have gen:∀(l:List Sv) (k:Nat),x∈l→0≤aQ n k l:=by
   intro l;induction l with
   | nil=>intro _ h;cases h
   | cons y l ih =>
    intro k h;show 0≤(bif decide (y.label=n) then (k:Int) else aQ n (k+1) l);rcases List.mem_cons.1 h with rfl|h
    ·rw [decide_eq_true e,cond_true];omega
    ·cases decide (y.label=n) with
     | true=>rw [cond_true];omega
     | false=>exact ih (k+1) h
  have:=gen l k hx;omega
 ·intro h;rw [nr h];omega
theorem pw {n:Int}:∀(pre:List Sv) (k:Nat) (x:Sv) (l:List Sv),x.label=n→(aQ n k (pre++x :: l)=((k+pre.length:Nat):Int)↔∀y∈pre,y.label≠n)
 | [],k,x,l,h=>by
  have:aQ n k (x :: l)=bif decide (x.label=n) then (k:Int) else aQ n (k+1) l:=rfl;simp [this,h]
 | y :: pre,k,x,l,h=>by
  have e:aQ n k ((y :: pre)++x :: l)=bif decide (y.label=n) then (k:Int) else aQ n (k+1) (pre++x :: l):=rfl;rw [e,List.length_cons];by_cases hy:y.label=n
  ·rw [decide_eq_true hy,cond_true];constructor
   ·intro h;omega
   ·intro h2;exact absurd hy (h2 y (by simp))
  ·rw [decide_eq_false hy,cond_false];have ih:=pw pre (k+1) x l h;have e1:((k+(pre.length+1):Nat):Int)=((k+1+pre.length:Nat):Int):=by omega
   rw [e1,ih];constructor
   ·intro h2 z hz;rcases List.mem_cons.1 hz with rfl|hz
    ·exact hy
    ·exact h2 z hz
   ·intro h2 z hz;exact h2 z (by simp [hz])
theorem px (n:Int):∀(l pre:List Sv) (a:Int),0≤a→(pre.map (·.label)).Nodup→(uf (pre++l) n pre.length a l=true↔(∀x∈l,(1≤x.label∧x.label≤99)∧0≤x.at_∧x.at_≤n)∧(l.Pairwise fun x y=>x.at_≤y.at_)∧(∀x∈l,a≤x.at_)∧((pre++l).map (·.label)).Nodup)
 | [],pre,a,_,hp=>by
  simpa [uf] using hp
 | x :: l,pre,a,ha,hp=>by
  show (decide (1≤x.label) && decide (x.label≤99) && decide (0≤x.at_) && decide (x.at_≤n) && decide (a≤x.at_) && decide (aQ x.label 0 (pre++x :: l)=(pre.length:Int)) && uf (pre++x :: l) n (pre.length+1) x.at_ l)=true↔_;simp only [Bool.and_eq_true,decide_eq_true_eq];have hf:aQ x.label 0 (pre++x :: l)=(pre.length:Int)↔∀y∈pre,y.label≠x.label:=by
   have:=pw pre 0 x l rfl
   rwa [Nat.zero_add] at this
  have hpx:((pre++[x]).map (·.label)).Nodup↔∀y∈pre,y.label≠x.label:=by
   rw [List.map_append,List.nodup_append];constructor
   ·rintro ⟨_,_,h⟩ y hy;exact h y.label (List.mem_map.2 ⟨y,hy,rfl⟩) x.label (by simp)
   ·intro h;refine ⟨hp,by simp,?_⟩;intro u hu v hv;obtain ⟨y,hy,rfl⟩:=List.mem_map.1 hu;simp at hv;subst hv;exact h y hy
  have e1:pre++x :: l=(pre++[x])++l:=by simp
  have e2:pre.length+1=(pre++[x]).length:=by simp
  rw [hf];constructor
  ·rintro ⟨⟨⟨⟨⟨⟨h1,h2⟩,h3⟩,h4⟩,h5⟩,h6⟩,h7⟩;rw [e1,e2,px n l (pre++[x]) x.at_ h3 (hpx.2 h6)] at h7;obtain ⟨k1,k2,k3,k4⟩:=h7;refine ⟨?_,List.pairwise_cons.2 ⟨k3,k2⟩,?_,by rw [e1];exact k4⟩
   ·intro y hy;rcases List.mem_cons.1 hy with rfl|hy
    ·exact ⟨⟨h1,h2⟩,h3,h4⟩
    ·exact k1 y hy
   ·intro y hy;rcases List.mem_cons.1 hy with rfl|hy
    ·exact h5
    ·have:=k3 y hy;omega
  ·rintro ⟨h1,h2,h3,h4⟩;obtain ⟨k1,k2⟩:=List.pairwise_cons.1 h2;have hx:=h1 x (by simp);rw [e1] at h4;have h6:∀y∈pre,y.label≠x.label:=hpx.1 (by rw [List.map_append] at h4;exact (List.nodup_append.1 h4).1);refine ⟨⟨⟨⟨⟨⟨hx.1.1,hx.1.2⟩,hx.2.1⟩,hx.2.2⟩,h3 x (by simp)⟩,h6⟩,?_⟩;rw [e1,e2,px n l (pre++[x]) x.at_ hx.2.1 (hpx.2 h6)];exact ⟨fun y hy=>h1 y (by simp [hy]),k2,k1,h4⟩
structure Ld (g:Lg):Prop where
 slen:g.saves.length≤4
 ents:Ents g.entries
 nms:(bS g.entries).length≤8
 svs:Svs g.saves g.entries.length
theorem fc {g:Lg}:sQ g=true↔Ld g:=by
 unfold sQ pt;simp only [Bool.and_eq_true,decide_eq_true_eq,vS];have h:=px (g.entries.length:Int) g.saves [] 0 (Int.le_refl _) (by simp);simp only [List.nil_append,List.length_nil] at h;rw [h];constructor
 ·rintro ⟨⟨⟨⟨h1,h2⟩,h3⟩,h4⟩,h5,h6,h7,h8⟩;exact ⟨h2,h3,h4,h5,h6,h8⟩
 ·rintro ⟨h2,h3,h4,h5,h6,h8⟩;exact ⟨⟨⟨⟨by have:=vU h3 h4;omega,h2⟩,h3⟩,h4⟩,h5,h6,fun x hx=>(h5 x hx).2.1,h8⟩
def eG (g:Lg) (e:En):Lg×Int:=bif !sQ g then (.zero,2) else bif !sQ ⟨g.entries++[e],g.saves⟩ then (.zero,1) else (⟨g.entries++[e],g.saves⟩,0)
def d8 (g:Lg) (n:Int):Lg×Int :=
 bif !sQ g then (.zero,2) else bif !(decide (1≤n) && decide (n≤99)) then (.zero,1) else bif decide (0≤aQ n 0 g.saves) then (.zero,11) else bif decide (g.saves.length=4) then (.zero,4) else (⟨g.entries,g.saves++[⟨n,g.entries.length⟩]⟩,0)
def bW (g:Lg) (n:Int):Lg:=bif decide (n=0) then ⟨[],[]⟩ else ⟨g.entries.take ((g.saves.getD (aQ n 0 g.saves).toNat ⟨0,0⟩).at_).toNat,g.saves.take ((aQ n 0 g.saves).toNat+1)⟩
def dq (g:Lg) (n:Int):Lg×List Tm×Int :=
 bif !sQ g then (.zero,[],2) else bif !decide (n=0) && decide (aQ n 0 g.saves<0) then (.zero,[],10) else
 (bW g n,(bS (g.entries.drop (bW g n).entries.length)).map fun m=>⟨m,ay (bW g n).entries m⟩,0)
def oth (n:ByteArray) (e:En):Bool:=!aZ e.name n
def fh (g:Lg) (n:ByteArray):Lg:=⟨g.entries.filter (oth n),g.saves.map fun s=>⟨s.label,((g.entries.take s.at_.toNat).filter (oth n)).length⟩⟩
def gU (g:Lg) (n:ByteArray):Lg×Bool:=bif !sQ g then (.zero,false) else bif decide ((fh g n).entries.length=g.entries.length) then (.zero,false) else (fh g n,true)
def eH (g:Lg):List Tm:=((bS g.entries).map fun m=>(⟨m,ay g.entries m⟩:Tm)).filter fun a=>!aG a.am
theorem kv {l:List ByteArray} (h:nX l):l.Nodup:=h.imp fun {a b} (hab:jE a b=true) (e:a=b)=>by rw [e,dH] at hab;cases hab
theorem sR {α:Type} [DecidableEq α] {l m:List α} (hn:l.Nodup) (hs:∀x∈l,x∈m):l.length≤m.length:=by
 induction l generalizing m with
 | nil=>exact Nat.zero_le _
 | cons x l ih =>
  rw [List.nodup_cons] at hn;have hx:=hs x (by simp);have h1:=ih (m:=m.erase x) hn.2 fun y hy=>(List.mem_erase_of_ne (fun (e:y=x)=>hn.1 (e▸hy))).2 (hs y (by simp [hy]));have h2:=List.length_erase_of_mem hx;have h3:=List.length_pos_of_mem hx;rw [List.length_cons];omega
theorem sS {l m:List En} (h:∀e∈l,e∈m):(bS l).length≤(bS m).length :=
 sR (kv (eV l)) fun x hx=>by
  obtain ⟨e,he,hn⟩:=dj.1 hx;exact dj.2 ⟨e,h e he,hn⟩
theorem Svs.mono {s:List Sv} {n m:Int} (h:Svs s n) (hm:n≤m):Svs s m:=⟨fun x hx=>⟨(h.lab x hx).1,(h.lab x hx).2.1,by have:=(h.lab x hx).2.2;omega⟩,h.ord,h.nd⟩
theorem sU {g:Lg} (h:Ld g) {e:En} (hn:cE e.name.toList=true) (hb:e.before=ay g.entries e.name) (hg:dI e.before e.after=true) {ns:List ByteArray} (hns:ns.length≤8) (h1:∀x∈g.entries,x.name∈ns) (h2:e.name∈ns) :
  eG g e=(⟨g.entries++[e],g.saves⟩,0)∧Ld ⟨g.entries++[e],g.saves⟩:=by
 have hl:Ld ⟨g.entries++[e],g.saves⟩:=by
  refine ⟨h.slen,Ents.snoc.2 ⟨h.ents,hn,hb,hg⟩,?_,h.svs.mono (by show (g.entries.length:Int)≤((g.entries++[e]).length:Nat);rw [List.length_append];omega)⟩;have:=sR (m:=ns) (kv (eV (g.entries++[e]))) fun x hx=>by
   obtain ⟨f,hf,hfx⟩:=dj.1 hx;rcases List.mem_append.1 hf with hf|hf
   ·exact hfx▸h1 f hf
   ·rw [List.mem_singleton] at hf;subst hf;exact hfx▸h2
  show (bS (g.entries++[e])).length≤8;omega
 refine ⟨?_,hl⟩;unfold eG;rw [fc.2 h,fc.2 hl];rfl
theorem Ej {g:Lg} {n:Int} (h:(d8 g n).2=0):Ld g∧d8 g n=(⟨g.entries,g.saves++[⟨n,g.entries.length⟩]⟩,0)∧Ld ⟨g.entries,g.saves++[⟨n,g.entries.length⟩]⟩:=by
 unfold d8 at h ⊢;cases hV:sQ g with
 | false=>rw [hV] at h;simp at h
 | true =>
  have hl:=fc.1 hV;rw [hV] at h;simp only [Bool.not_true,cond_false] at h ⊢;cases hA:decide (1≤n) && decide (n≤99) with
  | false=>rw [hA] at h;simp at h
  | true =>
   rw [hA] at h;simp only [Bool.not_true,cond_false] at h ⊢;simp only [Bool.and_eq_true,decide_eq_true_eq] at hA;by_cases hF:0≤aQ n 0 g.saves
   ·rw [decide_eq_true hF] at h;simp at h
   ·rw [decide_eq_false hF] at h ⊢;simp only [cond_false] at h ⊢;by_cases h4:g.saves.length=4
    ·rw [decide_eq_true h4] at h;simp at h
    ·rw [decide_eq_false h4];refine ⟨hl,rfl,by have:=hl.slen;simp;omega,hl.ents,hl.nms,?_,?_,?_⟩
     ·intro x hx;rcases List.mem_append.1 hx with hx|hx
      ·exact hl.svs.lab x hx
      ·rw [List.mem_singleton] at hx;subst hx;exact ⟨hA,by simp,by simp⟩
     ·rw [List.pairwise_append];refine ⟨hl.svs.ord,by simp,?_⟩;intro x hx y hy;rw [List.mem_singleton] at hy;subst hy;exact (hl.svs.lab x hx).2.2
     ·rw [List.map_append,List.nodup_append];refine ⟨hl.svs.nd,by simp,?_⟩;intro u hu v hv;obtain ⟨y,hy,rfl⟩:=List.mem_map.1 hu;simp at hv;subst hv;exact (xE (k:=0)).1 (by omega) y hy
theorem Ek {g:Lg} {n:Int} (h:(dq g n).2.2=0):Ld g∧Ld (bW g n)∧dq g n=(bW g n,(bS (g.entries.drop (bW g n).entries.length)).map fun m=>⟨m,ay (bW g n).entries m⟩,0)∧(bW g n).entries=g.entries.take (bW g n).entries.length:=by
 unfold dq at h ⊢;cases hV:sQ g with
 | false=>rw [hV] at h;simp at h
 | true =>
  have hl:=fc.1 hV;rw [hV] at h;simp only [Bool.not_true,cond_false] at h ⊢;cases hA : !decide (n=0) && decide (aQ n 0 g.saves<0) with
  | true=>rw [hA] at h;simp at h
  | false =>
   refine ⟨hl,?_,rfl,?_⟩
   ·unfold bW;by_cases h0:n=0
    ·rw [decide_eq_true h0,cond_true];exact ⟨by simp,fun k hk=>absurd hk (by simp),by simp [bS,dD],fun x hx=>absurd hx (by simp),by simp,by simp⟩
    ·rw [decide_eq_false h0] at hA ⊢;simp only [Bool.not_false,Bool.true_and,decide_eq_false_iff_not] at hA;obtain ⟨i,hi,e1,e2⟩:=ji (n:=n) (l:=g.saves) (k:=0) (by omega);have e3:(aQ n 0 g.saves).toNat=i:=by rw [e1];omega
     rw [e3,cond_false];have e4:g.saves.getD i ⟨0,0⟩=g.saves[i]:=by simp [hi]
     rw [e4];have hsi:=hl.svs.lab g.saves[i] (List.getElem_mem hi);refine ⟨by have:=hl.slen;simp;omega,hl.ents.take _,Nat.le_trans (sS fun e he=>List.mem_of_mem_take he) hl.nms,?_,?_,?_⟩
     ·intro x hx;have h1:=hl.svs.lab x (List.mem_of_mem_take hx);refine ⟨h1.1,h1.2.1,?_⟩;obtain ⟨j,hj,e⟩:=List.mem_iff_getElem.1 hx;rw [List.getElem_take] at e;have hj2:j<g.saves.length:=by rw [List.length_take] at hj;omega
      have hji:j≤i:=by rw [List.length_take] at hj;omega
      have h2:g.saves[j].at_≤g.saves[i].at_:=by
       rcases Nat.lt_or_eq_of_le hji with hlt|rfl
       ·exact List.pairwise_iff_getElem.1 hl.svs.ord j i hj2 hi hlt
       ·exact Int.le_refl _
      rw [e] at h2;show x.at_≤((g.entries.take g.saves[i].at_.toNat).length:Nat);rw [List.length_take];omega
     ·exact hl.svs.ord.sublist (List.take_sublist _ _)
     ·exact hl.svs.nd.sublist ((List.take_sublist _ _).map _)
   ·unfold bW;cases decide (n=0) with
    | true=>simp
    | false =>
     simp only [cond_false];rw [List.length_take];rcases Nat.le_total (g.saves.getD (aQ n 0 g.saves).toNat ⟨0,0⟩).at_.toNat g.entries.length with h|h
     ·rw [Nat.min_eq_left h]
     ·rw [Nat.min_eq_right h,List.take_of_length_le h,List.take_length]
theorem jj (n m:ByteArray):∀(l:List En) (a:Am),(m=n→a=⟨0,0⟩)→di m a (l.filter (oth n))=if m=n then ⟨0,0⟩ else di m a l
 | [],a,ha=>by
  by_cases h:m=n
  ·simp [di,h,ha h]
  ·simp [di,h]
 | e :: l,a,ha=>by
  rw [List.filter_cons];unfold oth;cases he:aZ e.name n with
  | true =>
   have hen:=aP.1 he;simp only [Bool.not_true,Bool.false_eq_true,if_false];rw [show (List.filter (fun e=>!aZ e.name n) l)=l.filter (oth n) from rfl,jj n m l a ha];by_cases h:m=n
   ·rw [if_pos h,if_pos h]
   ·rw [if_neg h,if_neg h];have:aZ e.name m=false:=bJ.2 fun h2=>h (h2.symm.trans hen);show di m a l=di m (bif aZ e.name m then e.after else a) l;rw [this];rfl
  | false =>
   have hen:=bJ.1 he;simp only [Bool.not_false,if_true];show di m (bif aZ e.name m then e.after else a) (l.filter (oth n))=_;rw [jj n m l _ (fun h=>by
    have:aZ e.name m=false:=bJ.2 fun h2=>hen (h2.trans h);rw [this];exact ha h)]
   rfl
theorem fN (n m:ByteArray) (l:List En):ay (l.filter (oth n)) m=if m=n then ⟨0,0⟩ else ay l m:=jj n m l _ fun _=>rfl
theorem vV {l:List En} (h:Ents l) (n:ByteArray):Ents (l.filter (oth n)):=by
 refine lI (P:=fun l=>Ents (l.filter (oth n))) (fun k hk=>absurd hk (by simp)) ?_ l h;intro l e _ he ih;rw [List.filter_append];cases ho:oth n e with
 | false =>
  have:[e].filter (oth n)=[]:=by simp [ho]
  rw [this,List.append_nil];exact ih
 | true =>
  have:[e].filter (oth n)=[e]:=by simp [ho]
  rw [this];have hne:e.name≠n:=by unfold oth at ho;rw [Bool.not_eq_true',bJ] at ho;exact ho
  exact Ents.snoc.2 ⟨ih,he.nm,by rw [fN,if_neg hne];exact he.bef,he.gr⟩
theorem mC {α:Type} (p:α→Bool) (l:List α) {i j:Nat} (h:i≤j):((l.take i).filter p).length≤((l.take j).filter p).length:=by
 have:l.take i=(l.take j).take i:=by rw [List.take_take];congr 1;omega
 rw [this];exact ((List.take_sublist i (l.take j)).filter p).length_le
theorem Em {g:Lg} (h:Ld g) (n:ByteArray):Ld (fh g n):=by
 unfold fh;refine ⟨by have:=h.slen;simpa using this,vV h.ents n,Nat.le_trans (sS fun e he=>(List.mem_filter.1 he).1) h.nms,?_,?_,?_⟩
 ·intro x hx;obtain ⟨s,hs,rfl⟩:=List.mem_map.1 hx;have h1:=h.svs.lab s hs;refine ⟨h1.1,Int.natCast_nonneg _,?_⟩;have:=((List.take_sublist s.at_.toNat g.entries).filter (oth n)).length_le;show (((g.entries.take s.at_.toNat).filter (oth n)).length:Int)≤((g.entries.filter (oth n)).length:Nat);omega
 ·rw [List.pairwise_map];exact h.svs.ord.imp fun {a b} (hab:a.at_≤b.at_)=>by
   have:=mC (oth n) g.entries (i:=a.at_.toNat) (j:=b.at_.toNat) (by omega);show ((_:Nat):Int)≤((_:Nat):Int);omega
 ·rw [List.map_map];exact h.svs.nd
structure Rq where
 expr:Ex
 prio:Int
 limit:Int
def Rq.zero:Rq:=⟨Ex.zero,0,0⟩
structure Pc where
 proc:Pr
 cost:Int
 led:Lg
 waiting:Bool
 req:Rq
 since:Int
 gen:Int
def Eo:Pc:=⟨⟨0,0,0⟩,0,Lg.zero,false,Rq.zero,0,0⟩
structure Cs where
 now:Int
 queues:List Qu
 procs:List Pc
def ID:Cs:=⟨0,[],[]⟩
structure Cm where
 kind:Int
 proc:Pr
 req:Rq
 name:ByteArray
 n:Int
def aS (t:List Qu) (n:ByteArray):Bool:=decide (0≤bR n 0 t)
def a6 (t:List Qu) (n:ByteArray):Qu:=t.getD (gE t n) iI
def bo (t:List Qu) (p:Pr) (x:Ex):List Bool:=(cJ x).map fun a=>aS t a.name && a8 (a6 t a.name).res (ao (a6 t a.name).holds p) a.am
def gV (t:List Qu):List Tm→Int
 | []=>0
 | a :: l=>bif !aS t a.name then 10 else bif !aC (a6 t a.name).res a.am then 12 else gV t l
def iP (t:List Qu) (x:Ex):Int:=bif !kf x then 1 else gV t (cJ x)
def sV (r:Rq):Bool:=kf r.expr && decide (0≤r.prio) && decide (r.prio≤7) && decide (0≤r.limit) && decide (r.limit≤1000)
def IE (x:Ex):Bool:=decide (x.k=0) && decide (x.atom=gN) && x.kids.isEmpty
def Gc (r:Rq):Bool:=IE r.expr && decide (r.prio=0) && decide (r.limit=0)
theorem Ep {x:Ex}:IE x=true↔x=Ex.zero:=by
 obtain ⟨k,a,l⟩:=x;unfold IE Ex.zero;simp only [Bool.and_eq_true,decide_eq_true_eq,List.isEmpty_iff];show (k=0∧a=gN)∧l=[]↔_;constructor
 ·rintro ⟨⟨rfl,rfl⟩,rfl⟩;rfl
 ·intro h;injection h with h1 h2 h3;exact ⟨⟨h1,h2⟩,h3⟩
theorem Er {r:Rq}:Gc r=true↔r=Rq.zero:=by
 obtain ⟨x,p,l⟩:=r;unfold Gc Rq.zero;simp only [Bool.and_eq_true,decide_eq_true_eq,Ep];constructor
 ·rintro ⟨⟨rfl,rfl⟩,rfl⟩;rfl
 ·intro h;injection h with h1 h2 h3;exact ⟨⟨h1,h2⟩,h3⟩
def eI (t:List Qu) (p:Pr):List Tm:=(t.map fun q=>(⟨q.res.name,ao q.holds p⟩:Tm)).filter fun a=>!aG a.am
def cn (p:Pr):List Qu→List Tm
 | []=>[]
 | q :: l=>match ai q p with
  | some a=>⟨q.res.name,a⟩ :: cn p l
  | none=>cn p l
def cN (q:Qu) (x:Pc):List Tm→Bool
 | []=>decide (ao q.holds x.proc=ay x.led.entries q.res.name) && !(ai q x.proc).isSome
 | a :: l=>bif !aZ a.name q.res.name || a8 q.res (ay x.led.entries q.res.name) a.am then cN q x l else
  bif !(ai q x.proc).isSome then decide (ao q.holds x.proc=bN q.res (ay x.led.entries q.res.name) a.am) else
  bif q.waits.any (fun y=>decide (y.proc=x.proc) && !decide (y.prio=x.req.prio)) then false else
  decide (ao q.holds x.proc=ay x.led.entries q.res.name) && decide (ai q x.proc=some (bN q.res (ay x.led.entries q.res.name) a.am))
def nu (c:Cs) (x:Pc):Bool :=
 j8 x.proc && decide (1≤x.cost) && decide (x.cost≤1000) && sQ x.led && decide (0≤x.gen) && decide (x.gen≤1073741824) &&
 (eH x.led).all (fun a=>aS c.queues a.name && aC (a6 c.queues a.name).res a.am) &&
 bif !x.waiting then Gc x.req && decide (x.since=0) && decide (eH x.led=eI c.queues x.proc) && decide (cn x.proc c.queues=[]) else
 sV x.req && decide (iP c.queues x.req.expr=0) && decide (0≤x.since) && decide (x.since≤c.now) && (decide (x.req.limit=0) || decide (c.now<x.since+x.req.limit)) &&
 !dE x.req.expr (bo c.queues x.proc x.req.expr) && c.queues.all (fun q=>cN q x (cJ x.req.expr))
def cD (p:Pr):Nat→List Pc→Int
 | _,[]=>-1
 | k,x :: l=>bif decide (x.proc=p) then (k:Int) else cD p (k+1) l
def vW (c:Cs):Option Pr→List Pc→Bool
 | _,[]=>true
 | o,x :: l=>nu c x && Fo o x.proc && vW c (some x.proc) l
def cM (c:Cs):Bool:=decide (0≤c.now) && decide (c.now≤1073741824) && dl c.queues && decide (c.procs.length≤8) && (aB c.queues).all (fun p=>decide (0≤cD p 0 c.procs)) && vW c none c.procs
structure Wk where
 c:Cs
 ev:List Ev
def Wk.take (w:Wk) (t:List Qu) (ev:List Ev):Wk:=⟨{ w.c with queues:=t },w.ev++ev⟩
def Wk.note (w:Wk) (k:Int) (p:Pr):Wk:=⟨w.c,w.ev++[⟨k,p,⟨#[]⟩,⟨0,0⟩⟩]⟩
def Wk.pc (w:Wk) (i:Nat):Pc:=w.c.procs.getD i Eo
def Wk.setP (w:Wk) (i:Nat) (x:Pc):Wk:=⟨{ w.c with procs:=w.c.procs.set i x },w.ev⟩
def gu (w:Wk) (p:Pr) (n:ByteArray):Wk:=w.take (bz w.c.queues p n).1 (bz w.c.queues p n).2.1
def eJ (w:Wk) (p:Pr) (a:Tm):Wk:=w.take (cg w.c.queues p a).1 (cg w.c.queues p a).2.1
def eK (w:Wk) (p:Pr) (n:ByteArray):Wk:=bif (ai (a6 w.c.queues n) p).isSome then gu w p n else w
def bX (w:Wk) (p:Pr) (n:ByteArray) (l:Am):Wk:=bif decide (ao (a6 w.c.queues n).holds p=l) then w else eJ w p ⟨n,l⟩
def bq (w:Wk) (x:Pc) (n:ByteArray):Wk:=bX (eK w x.proc n) x.proc n (ay x.led.entries n)
def gg (w:Wk) (i:Nat):Wk:=w.setP i { w.pc i with waiting:=false,req:=Rq.zero,since:=0 }
def aY (w:Wk) (i:Nat):Wk:=w.setP i { w.pc i with gen:=aJ (w.pc i).gen }
def cO (x:Pc):List Tm→Wk→Wk
 | [],w=>w
 | a :: l,w=>cO x l (bq w x a.name)
def az (w:Wk) (i:Nat):Wk:=gg (cO (w.pc i) (cJ (w.pc i).req.expr) w) i
def dP (t:List Qu) (x:Pc):Bool:=x.waiting && dE x.req.expr (bo t x.proc x.req.expr)
def gh (t:List Qu):Nat→List Pc→Option Nat
 | _,[]=>none
 | k,x :: l=>bif dP t x then some k else gh t (k+1) l
def iw (x:Ex) (L:List Tm):Nat→List Bool→List Bool
 | 0,out=>out
 | i+1,out=>iw x L i (bif out.getD i false then out.set i (!sy (ce L (out.set i false)) x) else out)
def cY (x:Ex) (set:List Bool):List Bool :=
 bif dE x set then iw x (cJ x) (cJ x).length ((List.range (cJ x).length).map fun i=>set.getD i false) else List.replicate (cJ x).length false
def gW (w:Wk) (i:Nat) (p:Pr) (n:ByteArray):Wk :=
 bif decide (ao (a6 w.c.queues n).holds p=ay (w.pc i).led.entries n) then w else
 w.setP i { w.pc i with led:=(eG (w.pc i).led ⟨n,ay (w.pc i).led.entries n,ao (a6 w.c.queues n).holds p⟩).1 }
def da (x:Pc) (i:Nat):List Tm→List Bool→Wk→Wk
 | a :: l,b :: bs,w=>da x i l bs (bif b then gW w i x.proc a.name else bq w x a.name)
 | _,_,w=>w
def gX (w:Wk) (i:Nat):Wk :=
 aY (gg (da (w.pc i) i (cJ (w.pc i).req.expr) (cY (w.pc i).req.expr (bo w.c.queues (w.pc i).proc (w.pc i).req.expr)) (w.note 2 (w.pc i).proc)) i) i
def aW:Nat→Wk→Wk
 | 0,w=>w
 | n+1,w=>match gh w.c.queues 0 w.c.procs with
  | none=>w
  | some i=>aW n (gX w i)
def bf (w:Wk):Wk:=aW w.c.procs.length w
def fG (w:Wk) (i:Nat):Wk :=
 bf (Wk.note ⟨{ w.c with queues:=(b9 w.c.queues (w.pc i).proc).1,procs:=w.c.procs.eraseIdx i },w.ev++(b9 w.c.queues (w.pc i).proc).2⟩ 5 (w.pc i).proc)
def gY (now:Int):Nat→List Pc→Int×Int→Int×Int
 | _,[],b=>b
 | k,x :: l,b=>gY now (k+1) l (bif x.waiting && !decide (x.req.limit=0) && decide (x.since+x.req.limit≤now) && (decide (b.1<0) || decide (x.since+x.req.limit<b.2)) then ((k:Int),x.since+x.req.limit) else b)
def et (w:Wk):Int:=(gY w.c.now 0 w.c.procs (-1,0)).1
def jV (x:Pc):List Pc→List Pc
 | []=>[x]
 | y :: l=>bif decide (0<bC y.proc x.proc) then x :: y :: l else y :: jV x l
def j6 (w:Wk) (p:Pr) (cost:Int):Wk×Int :=
 bif !(j8 p && decide (1≤cost) && decide (cost≤1000)) then (w,1) else bif decide (0≤cD p 0 w.c.procs) then (w,11) else bif decide (w.c.procs.length=8) then (w,4) else
 (⟨{ w.c with procs:=jV { Eo with proc:=p,cost:=cost } w.c.procs },w.ev⟩,0)
def co (p:Pr) (prio:Int):List Tm→Wk→Wk
 | [],w=>w
 | a :: l,w=>co p prio l (w.take (bt w.c.queues p a prio).1 (bt w.c.queues p a prio).2.1)
def ck (w:Wk) (i:Nat) (r:Rq):Wk×Int :=
 bif (w.pc i).waiting then (w,14) else bif !sV r then (w,1) else bif !decide (iP w.c.queues r.expr=0) then (w,iP w.c.queues r.expr) else
 (bf (co (w.pc i).proc r.prio (cJ r.expr) (aY (w.setP i { w.pc i with waiting:=true,req:=r,since:=w.c.now }) i)),0)
def dJ (w:Wk) (i:Nat) (n:ByteArray):Wk×Int :=
 bif (w.pc i).waiting then (w,14) else bif decide (ay (w.pc i).led.entries n=⟨0,0⟩) then (w,10) else
 let w1:=eJ w (w.pc i).proc ⟨n,⟨0,0⟩⟩
 (bf (aY (w1.setP i { w1.pc i with led:=(gU (w1.pc i).led n).1 }) i),0)
def bH (p:Pr):List Tm→Wk→Wk
 | [],w=>w
 | a :: l,w=>bH p l (bX w p a.name a.am)
def cy (w:Wk) (i:Nat) (n:Int):Wk×Int :=
 bif !decide ((dq (w.pc i).led n).2.2=0) then (w,(dq (w.pc i).led n).2.2) else
 let w1:=bif (w.pc i).waiting then az w i else w
 let w2:=w1.setP i { w1.pc i with led:=(dq (w.pc i).led n).1 }
 (bf (aY (bH (w.pc i).proc (dq (w.pc i).led n).2.1 w2) i),0)
def fk:Nat→Wk→Wk
 | 0,w=>w
 | n+1,w=>bif decide (et w<0) then w else
  fk n (bf (aY (az (w.note 4 (w.pc (et w).toNat).proc) (et w).toNat) (et w).toNat))
def gZ (w:Wk) (n:Int):Wk×Int :=
 bif !(decide (0≤n) && decide (n≤1000)) then (w,1) else bif decide (1073741824-n<w.c.now) then (w,16) else (fk w.c.procs.length ⟨{ w.c with now:=w.c.now+n },w.ev⟩,0)
def oc (w:Wk) (k:Cm):Wk×Int :=
 bif !(decide (1≤k.kind) && decide (k.kind≤9)) then (w,1) else bif decide (k.kind=1) then j6 w k.proc k.n else bif decide (k.kind=9) then gZ w k.n else
 bif decide (cD k.proc 0 w.c.procs<0) then (w,10) else
 let i:=(cD k.proc 0 w.c.procs).toNat
 bif decide (k.kind=2) then ck w i k.req else
 bif decide (k.kind=3) then (bif !(w.pc i).waiting then (w,14) else (bf (aY (az w i) i),0)) else
 bif decide (k.kind=4) then dJ w i k.name else
 bif decide (k.kind=5) then (bif (w.pc i).waiting then (w,14) else bif !decide ((d8 (w.pc i).led k.n).2=0) then (w,(d8 (w.pc i).led k.n).2) else (aY (w.setP i { w.pc i with led:=(d8 (w.pc i).led k.n).1 }) i,0)) else
 bif decide (k.kind=6) then cy w i k.n else
 bif decide (k.kind=8) && (w.pc i).waiting then (w,14) else (fG w i,0)
def fO (c:Cs) (k:Cm):Cs×List Ev×Int :=
 bif !cM c then (ID,[],2) else bif !decide ((oc ⟨c,[]⟩ k).2=0) then (ID,[],(oc ⟨c,[]⟩ k).2) else ((oc ⟨c,[]⟩ k).1.c,(oc ⟨c,[]⟩ k).1.ev,0)
def En.cells (x:En):List Value:=[.string x.name,.int .i64 x.before.mode,.int .i64 x.before.units,.int .i64 x.after.mode,.int .i64 x.after.units]
def Sv.cells (x:Sv):List Value:=[.int .i64 x.label,.int .i64 x.at_]
def Ev.cells (x:Ev):List Value:=[.int .i64 x.kind,.int .i64 x.proc.site,.int .i64 x.proc.inc,.int .i64 x.proc.num,.string x.name,.int .i64 x.am.mode,.int .i64 x.am.units]
def rx:El En:=El.plain 5 (by decide) En.cells (fun _=>rfl) (by intro x u hu;simp [En.cells] at hu;rcases hu with rfl|rfl|rfl|rfl|rfl <;> rfl)
def rg:El Sv:=El.plain 2 (by decide) Sv.cells (fun _=>rfl) (by intro x u hu;simp [Sv.cells] at hu;rcases hu with rfl|rfl <;> rfl)
def iQ:El Ev:=El.plain 7 (by decide) Ev.cells (fun _=>rfl) (by intro x u hu;simp [Ev.cells] at hu;rcases hu with rfl|rfl|rfl|rfl|rfl|rfl|rfl <;> rfl)
theorem IV:ElTB prog rx 61 172 48:=ElTB.mk' underlying61 (.agg #[.string { data:=#[] },.int .i64 0,.int .i64 0,.int .i64 0,.int .i64 0]) 5 48 (by kernel_rfl) rfl rfl
theorem IW:ElTB prog rg 62 199 16:=ElTB.mk' underlying62 (.agg #[.int .i64 0,.int .i64 0]) 2 16 (by kernel_rfl) rfl rfl
theorem IX:ElTB prog iQ 36 79 64:=ElTB.mk' underlying36 (.agg #[.int .i64 0,.int .i64 0,.int .i64 0,.int .i64 0,.string { data:=#[] },.int .i64 0,.int .i64 0]) 7 64 (by kernel_rfl) rfl rfl
section
variable {w:World} {S:Nat→Prop} {A:Option Addr} {i:Nat}
end
structure QS (w:World) (S:Nat→Prop) (A1 A2 A3:Option Addr) (q:Qu):Prop where
 r1:RowsAt jR w S A1 q.holds
 r2:RowsAt fJ w S A2 q.convs
 r3:RowsAt fJ w S A3 q.waits
 m1:q.holds.length≤maxLen
 m2:q.convs.length≤maxLen
 m3:q.waits.length≤maxLen
section
variable {w w':World} {S S':Nat→Prop} {A1 A2 A3:Option Addr} {q:Qu}
theorem QS.qf (h:QS w S A1 A2 A3 q) (hS:In w S):QF w w.heap.size A1 A2 A3 q:=⟨h.r1.lo hS,h.r2.lo hS,h.r3.lo hS,h.m1,h.m2,h.m3,Nat.le_refl _⟩
end
def fu (d:Nat):El Pc where
 n:=16
 pos:=by decide
 rep:=fun w S x cs=>∃A1 c1 A2 c2 A3 c3,cs=[.int .i64 x.proc.site,.int .i64 x.proc.inc,.int .i64 x.proc.num,.int .i64 x.cost,.slice A1 x.led.entries.length c1,.slice A2 x.led.saves.length c2,.bool x.waiting,.int .i64 x.req.expr.k,.string x.req.expr.atom.name,.int .i64 x.req.expr.atom.am.mode,.int .i64 x.req.expr.atom.am.units,.slice A3 x.req.expr.kids.length c3,.int .i64 x.req.prio,.int .i64 x.req.limit,.int .i64 x.since,.int .i64 x.gen]∧
  RowsAt rx w S A1 x.led.entries∧(x.led.entries.length≤c1∧c1≤maxLen)∧RowsAt rg w S A2 x.led.saves∧(x.led.saves.length≤c2∧c2≤maxLen)∧RowsAt (mn d) w S A3 x.req.expr.kids∧(x.req.expr.kids.length≤c3∧c3≤maxLen)
 len:=fun h=>by obtain ⟨A1,c1,A2,c2,A3,c3,rfl,_⟩:=h;rfl
 one:=fun h=>by obtain ⟨A1,c1,A2,c2,A3,c3,rfl,_⟩:=h;intro u hu;simp at hu;rcases hu with rfl|rfl|rfl|rfl|rfl|rfl|rfl|rfl|rfl|rfl|rfl|rfl|rfl|rfl|rfl|rfl <;> rfl
 same:=fun h hk hS=>by
  obtain ⟨A1,c1,A2,c2,A3,c3,e,h1,h2,h3,h4,h5,h6⟩:=h;exact ⟨A1,c1,A2,c2,A3,c3,e,h1.same hk hS,h2,h3.same hk hS,h4,h5.same hk hS,h6⟩
theorem Gd (l:List Value) (k:Nat):(l.map D.sc).any (D.has k)=false:=by
 induction l with
 | nil=>rfl
 | cons x l ih=>simp only [List.map_cons,List.any_cons,ih,D.has,Bool.or_self]
theorem BZ {w:World} {F:Nat→Prop} {ρ:Nat→Value}:∀{l vs:List Value},All2 (D.rep w F ρ) (l.map .sc) vs→vs=l
 | [],[],_=>rfl
 | _ :: _,_ :: _,h=>by rw [show _=_ from h.1,BZ h.2]
 | [],_ :: _,h=>h.elim
 | _ :: _,[],h=>h.elim
@[reducible] def eb {α:Type} (n:Nat) (pos:0<n) (f:α→List Value) (len:∀x,(f x).length=n) (one:∀x,∀u∈f x,u.oneCell'=true):Dp (El.plain n pos f len one) where
 deep:=fun x=>(f x).map .sc
 get:=fun h=>by rw [show _=_ from h];exact All2.scs _
 put:=fun h=>BZ h
 nok:=fun x k=>Gd (f x) k
instance:Dp jx:=eb _ _ _ _ _
instance:Dp zE:=eb _ _ _ _ _
instance:Dp c7:=eb _ _ _ _ _
instance:Dp jR:=eb _ _ _ _ _
instance:Dp fJ:=eb _ _ _ _ _
instance:Dp rx:=eb _ _ _ _ _
instance:Dp rg:=eb _ _ _ _ _
instance:Dp iQ:=eb _ _ _ _ _
instance:ST prog jR 55 98 40:=⟨IN⟩
instance:ST prog fJ 56 211 56:=⟨FJ⟩
instance:ST prog rx 61 172 48:=⟨IV⟩
instance:ST prog rg 62 199 16:=⟨IW⟩
instance:ST prog iQ 36 79 64:=⟨IX⟩
instance:ST prog c7 99 44 32:=⟨IM⟩
def Pc.d (d:Nat) (x:Pc):List D:=[.sc (.int .i64 x.proc.site),.sc (.int .i64 x.proc.inc),.sc (.int .i64 x.proc.num),.sc (.int .i64 x.cost),.sl rx x.led.entries,.sl rg x.led.saves,.sc (.bool x.waiting),.sc (.int .i64 x.req.expr.k),.sc (.string x.req.expr.atom.name),.sc (.int .i64 x.req.expr.atom.am.mode),.sc (.int .i64 x.req.expr.atom.am.units),.sl (mn d) x.req.expr.kids,.sc (.int .i64 x.req.prio),.sc (.int .i64 x.req.limit),.sc (.int .i64 x.since),.sc (.int .i64 x.gen)]
instance (d:Nat):Dp (fu d) where
 deep:=Pc.d d
 get:=by
  rintro w F ρ x cs ⟨A1,c1,A2,c2,A3,c3,rfl,h1,h2,h3,h4,h5,h6⟩;exact ⟨rfl,rfl,rfl,rfl,⟨A1,c1,rfl,h2,h1⟩,⟨A2,c2,rfl,h4,h3⟩,rfl,rfl,rfl,rfl,rfl,⟨A3,c3,rfl,h6,h5⟩,rfl,rfl,rfl,rfl,trivial⟩
 put:=by
  intro w F ρ x cs h
  match cs,h with
  | [_,_,_,_,_,_,_,_,_,_,_,_,_,_,_,_],⟨rfl,rfl,rfl,rfl,⟨A1,c1,rfl,h2,h1⟩,⟨A2,c2,rfl,h4,h3⟩,rfl,rfl,rfl,rfl,rfl,⟨A3,c3,rfl,h6,h5⟩,rfl,rfl,rfl,rfl,_⟩=>exact ⟨A1,c1,A2,c2,A3,c3,rfl,h1,h2,h3,h4,h5,h6⟩
 nok:=fun _ _=>rfl
theorem nv {P:Program} {f:FuncId} {args:List V0} {res:TV} (hen:∀(vs:Array Value) (w:World),(callFunc f vs).run P w = .ok (.enter f vs) w) (hok:z6 args [] [] res []=true)
  (h:∀(w:World) (S:Nat→Prop) (ρ:Nat→Value) (vs:List Value),PinW w (fun _=>False)→In w S→All2 (V0.rep w S ρ) args vs→Calls P f vs.toArray w fun e w'=>∃v,e = .returned v∧Below w.heap.size w w'∧res.rep w' (Gr S w.heap.size w') ρ v):FSpec P f args [] [] res []:=by
 refine ⟨hen,fun q c st ρ a w vs hr _ hargs _ _=>?_⟩;simp only [z6,Bool.and_eq_true] at hok;obtain ⟨⟨⟨⟨⟨⟨o1,_⟩,_⟩,_⟩,_⟩,o6⟩,_⟩:=hok;have hnok:∀d∈args,∀k,d.has k=true→False:=fun d hd k hk=>by have:=V0.in_has (List.all_eq_true.1 o1 d hd) hk;simp [aj,aD] at this
 have hnor:∀k,res.has k=true→False:=fun k hk=>by have:=TV.in_has o6 hk;simp [aj,aD] at this
 have hargs':All2 (V0.rep w (Fz c st.h ρ w) ρ) args vs:=hargs.imp fun d v hd h1=>(V0.rep_ren (ρ':=ρ) fun k hk=>(hnok d hd k hk).elim).1 h1;refine (h w (Fz c st.h ρ w) ρ vs hr.pin (fun b hb=>hb.2.1) hargs').mono ?_;rintro e w' ⟨v,rfl,hb,hv⟩;refine ⟨v,rfl,fun dst hdst=>⟨ρ,hr.app (e:=⟨res.ren q,dx q [],[].map q⟩) hdst (fun k hk=>by simp [aD] at hk) (fun _ _=>rfl) (fun k hk=>by simp [dx,ax] at hk) (Frx.below hb) (fun k bx g hk=>by simp [dx,ax] at hk) (fun k k' b b' g hk=>by simp [dx,ax] at hk) (fun k hk=>?_) (fun k k' bx hk=>by simp [dx,ax] at hk) (fun k bx hk=>by simp [dx,ax] at hk) ?_⟩⟩
 ·obtain ⟨k',hk',_⟩:=TV.has_ren hk;exact (hnor k' hk').elim
 ·refine ((TV.rep_ren (ρ':=ρ) fun k hk=>(hnor k hk).elim).2 hv).mono (fun b hb2=>⟨⟨?_,hb2.1,fun k bx hk he=>?_⟩,rfl⟩) fun _ _=>rfl
  ·rcases hb2.2 with h1|h1
   ·exact h1.1
   ·exact .inr (Nat.le_trans hr.frm.size h1)
  ·have hk:st.h k=some bx:=hk;rcases hb2.2 with h1|h1
   ·exact h1.2.2 k bx hk he
   ·have:=hr.ltb hk he;omega
theorem yJ {w:World} {F:Nat→Prop} {ρ:Nat→Value} {ds:List D} {l:List Value} {v:Value} (hs:scs ds=some l) (h:(V0.ag ds).rep w F ρ v):v = .agg l.toArray:=by
 obtain ⟨vs,rfl,h1⟩:=h;rw [gQ hs h1]
theorem jF {w w':World} {S:Nat→Prop} {ρ:Nat→Value} {v:Value} {e:Ending} (h:rf w v e w'):∃u,e = .returned u∧Below w.heap.size w w'∧(TV.c (.sc v)).rep w' (Gr S w.heap.size w') ρ u:=⟨v,h.1,h.2,rfl⟩
theorem vX {w w':World} {S:Nat→Prop} {ρ:Nat→Value} {α:Type} {t:TypeId} {l:List α} {e:Ending} {n:Nat} {pos:0<n} {f:α→List Value} {len:∀x,(f x).length=n} {one:∀x,∀u∈f x,u.oneCell'=true} (h:tF (El.plain n pos f len one) t w l e w') :
  ∃u,e = .returned u∧Below w.heap.size w w'∧(TV.c (.sl (El.plain n pos f len one) l)).rep w' (Gr S w.heap.size w') ρ u:=by
 obtain ⟨v,rfl,hown,hb⟩:=h;obtain ⟨A,cap,rfl,hr,h1,h2⟩:=OwnRows.nw hown;exact ⟨_,rfl,hb,A,cap,rfl,⟨h1,h2⟩,hr.grNew⟩
def D.okb:D→Bool
 | .sc x=>x.oneCell'
 | .sl ..=>true
 | _=>false
theorem D.okb_has {d:D} (h:d.okb=true) (k:Nat):d.has k=false:=by cases d <;> first|rfl|cases h
theorem D.okb_one {w:World} {F:Nat→Prop} {ρ:Nat→Value} {d:D} {v:Value} (h:d.okb=true) (hd:d.rep w F ρ v):v.oneCell'=true:=by
 cases d with
 | sc x=>have hd:v=x:=hd;rw [hd];exact h
 | sl E l=>obtain ⟨A,cap,rfl,_⟩:=hd;rfl
 | _=>cases h
def El.ofD {α:Type} (n:Nat) (pos:0<n) (f:α→List D) (len:∀x,(f x).length=n) (ok:∀x,(f x).all D.okb=true):El α where
 n:=n
 pos:=pos
 rep:=fun w S x cs=>All2 (D.rep w S fun _=>undef) (f x) cs
 len:=fun h=>by rw [←h.length,len]
 one:=fun {w S x cs} h=>o8 h fun d hd u hu=>D.okb_one (List.all_eq_true.1 (ok x) d hd) hu
 same:=fun {w w' S S' x cs} h hk hS=>h.imp fun d v hd h1=>D.rep.mono h1 (fun b hb=>⟨hS b hb,hk b hb⟩) fun _ _=>rfl
@[reducible] def JQ {α:Type} (n:Nat) (pos:0<n) (f:α→List D) (len:∀x,(f x).length=n) (ok:∀x,(f x).all D.okb=true):Dp (El.ofD n pos f len ok) where
 deep:=f
 get:=fun {w F ρ x cs} h=>All2.imp (R:=D.rep w F fun _=>undef) h fun d v hd h1=>D.rep.mono h1 (fun b hb=>⟨hb,rfl⟩) fun k hk=>by rw [D.okb_has (List.all_eq_true.1 (ok x) d hd) k] at hk;cases hk
 put:=fun {w F ρ x cs} h=>h.imp fun d v hd h1=>D.rep.mono h1 (fun b hb=>⟨hb,rfl⟩) fun k hk=>by rw [D.okb_has (List.all_eq_true.1 (ok x) d hd) k] at hk;cases hk
 nok:=fun x k=>by
  rw [Bool.eq_false_iff];intro h;obtain ⟨d,hd,h1⟩:=List.any_eq_true.1 h;rw [D.okb_has (List.all_eq_true.1 (ok x) d hd) k] at h1;cases h1
theorem cP {P:Program} {f:FuncId} {args:List V0} {res:TV} (hen:∀(vs:Array Value) (w:World),(callFunc f vs).run P w = .ok (.enter f vs) w) (hok:z6 args [] [] res []=true)
  (h:∀(w:World) (S:Nat→Prop) (ρ:Nat→Value) (vs:List Value),In w S→All2 (V0.rep w S ρ) args vs→Calls P f vs.toArray w fun e w'=>∃v,e = .returned v∧Below w.heap.size w w'∧res.rep w' (Gr S w.heap.size w') ρ v):FSpec P f args [] [] res [] :=
 nv hen hok fun w S ρ vs _ hS ha=>h w S ρ vs hS ha
def Pr.a (p:Pr):V0:=.ag [.sc (.int .i64 p.site),.sc (.int .i64 p.inc),.sc (.int .i64 p.num)]
def Am.a (x:Am):V0:=.ag [.sc (.int .i64 x.mode),.sc (.int .i64 x.units)]
def Tm.a (x:Tm):V0:=.ag [.sc (.string x.name),.sc (.int .i64 x.am.mode),.sc (.int .i64 x.am.units)]
def Rs.a (r:Rs):V0:=.ag [.sc (.string r.name),.sc (.int .i64 r.kind),.sc (.int .i64 r.units),.sc (.int .i64 r.home)]
def Qu.d (q:Qu):List D:=[.sc (.string q.res.name),.sc (.int .i64 q.res.kind),.sc (.int .i64 q.res.units),.sc (.int .i64 q.res.home),.sl jR q.holds,.sl fJ q.convs,.sl fJ q.waits,.sc (.int .i64 q.gen)]
def Qu.a (q:Qu):V0:=.ag q.d
def eX:El Qu:=El.ofD 8 (by decide) Qu.d (fun _=>rfl) fun _=>rfl
instance:Dp eX:=JQ _ _ _ _ _
def Ex.d (d:Nat) (x:Ex):List D:=[.sc (.int .i64 x.k),.sc (.string x.atom.name),.sc (.int .i64 x.atom.am.mode),.sc (.int .i64 x.atom.am.units),.sl (mn d) x.kids]
def Ex.a (d:Nat) (x:Ex):V0:=.ag (x.d d)
def Lg.a (l:Lg):V0:=.ag [.sl rx l.entries,.sl rg l.saves]
def Pc.a (d:Nat) (x:Pc):V0:=.ag (x.d d)
def En.a (x:En):V0:=.ag [.sc (.string x.name),.sc (.int .i64 x.before.mode),.sc (.int .i64 x.before.units),.sc (.int .i64 x.after.mode),.sc (.int .i64 x.after.units)]
def Rq.d (d:Nat) (r:Rq):List D:=[.sc (.int .i64 r.expr.k),.sc (.string r.expr.atom.name),.sc (.int .i64 r.expr.atom.am.mode),.sc (.int .i64 r.expr.atom.am.units),.sl (mn d) r.expr.kids,.sc (.int .i64 r.prio),.sc (.int .i64 r.limit)]
def Rq.a (d:Nat) (r:Rq):V0:=.ag (r.d d)
section
variable {w:World} {S:Nat→Prop} {ρ:Nat→Value} {v:Value}
theorem Pr.open {p:Pr} (h:p.a.rep w S ρ v):v=p.val:=yJ rfl h
theorem Rs.open {p:Rs} (h:p.a.rep w S ρ v):v=p.val:=yJ rfl h
theorem Qu.open {q:Qu} (h:q.a.rep w S ρ v):∃A1 A2 A3 c1 c2 c3,v=q.val A1 A2 A3 c1 c2 c3∧QS w S A1 A2 A3 q∧(q.holds.length≤c1∧c1≤maxLen)∧(q.convs.length≤c2∧c2≤maxLen)∧(q.waits.length≤c3∧c3≤maxLen):=by
 obtain ⟨cs,rfl,h⟩:=h
 match cs,h with
 | [_,_,_,_,_,_,_,_],⟨rfl,rfl,rfl,rfl,⟨A1,c1,rfl,h1,r1⟩,⟨A2,c2,rfl,h2,r2⟩,⟨A3,c3,rfl,h3,r3⟩,rfl,_⟩ =>
  exact ⟨A1,A2,A3,c1,c2,c3,rfl,⟨r1,r2,r3,Nat.le_trans h1.1 h1.2,Nat.le_trans h2.1 h2.2,Nat.le_trans h3.1 h3.2⟩,h1,h2,h3⟩
theorem Ex.open {d:Nat} {x:Ex} (h:(x.a d).rep w S ρ v):∃A c,v=x.val A c∧RowsAt (mn d) w S A x.kids∧(x.kids.length≤c∧c≤maxLen):=by
 obtain ⟨cs,rfl,h⟩:=h
 match cs,h with
 | [_,_,_,_,_],⟨rfl,rfl,rfl,rfl,⟨A,c,rfl,h1,r1⟩,_⟩=>exact ⟨A,c,rfl,r1,h1⟩
end
end Go.Proofs.YtcgpepnbohejfaaGreatDoor
