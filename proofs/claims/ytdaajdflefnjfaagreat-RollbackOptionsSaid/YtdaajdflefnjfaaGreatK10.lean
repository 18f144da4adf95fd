/- Part 10 of 24 of the proof of rollbackOptions_holds (no condition). -/
import Derived.Test.YtdaajdflefnjfaaGreatK09
set_option linter.unusedVariables false
set_option linter.unusedSimpArgs false
set_option maxRecDepth 100000
set_option maxHeartbeats 64000000
namespace Go.Proofs.YtdaajdflefnjfaaGreat
open Go.RowKit
theorem ls {l:List Ho} (ha:(dx l).Pairwise f8) {x:Ho} (hx:x∈l):aj l x.proc=x.am:=by
 induction l with
 | nil=>cases hx
 | cons y l ih =>
  have ha':(y.proc :: dx l).Pairwise f8:=ha
  obtain ⟨h1,h2⟩:=List.pairwise_cons.1 ha'
  show (bif decide (y.proc=x.proc) then y.am else aj l x.proc)=x.am
  rcases List.mem_cons.1 hx with rfl|hx
  ·rw [decide_eq_true rfl];rfl
  ·have h3:=h1 x.proc (List.mem_map.2 ⟨x,hx,rfl⟩)
   rw [decide_eq_false (fun (e:y.proc=x.proc)=>bH _ (e▸h3)),cond_false]
   exact ih h2 hx
theorem d9 {q:Qu} (h:Sd q) (r:Pr):r∈eT q↔eF q r=true:=by
 unfold eT eF
 rw [cb,List.mem_append,Bool.or_eq_true,Bool.not_eq_true',bq]
 constructor
 ·rintro (h1|h1)
  ·obtain ⟨x,hx,rfl⟩:=List.mem_map.1 h1
   right
   rw [ls h.hv.asc hx]
   exact bq.1 (dT (h.hv.fit x hx).2)
  ·left
   have h2:r∈bC (q.convs++q.waits):=h1
   obtain ⟨x,hx,rfl⟩:=List.mem_map.1 h2
   unfold ai
   rw [rU h.nd hx]
   rfl
 ·rintro (h1|h1)
  ·right
   obtain ⟨a,ha⟩:=Option.isSome_iff_exists.1 h1
   obtain ⟨x,hx,hp,_⟩:=Ck ha
   show r∈bC (q.convs++q.waits)
   exact List.mem_map.2 ⟨x,hx,hp⟩
  ·left
   obtain ⟨x,hx,hp,_⟩:=lq h1
   exact List.mem_map.2 ⟨x,hx,hp⟩
theorem gy:∀{l:List Qu} {r:Pr},r∈gp l↔∃q∈l,r∈eT q
 | [],r=>by simp [gp]
 | q :: l,r=>by
  show r∈eT q++gp l↔_
  rw [List.mem_append,gy]
  simp
theorem Eff.has {q q':Qu} {p:Pr} (h:Eff q q' p) (hq:eF q' p=true):eF q p=true:=by
 unfold eF at *
 rcases h with ⟨h1,h2⟩|⟨a,h1,_,_⟩
 ·rw [h1,h2] at hq
  exact hq
 ·rw [h1]
  rfl
def eO (t:List Qu):Bool:=eU t && decide ((aD t).length≤8)
def gz (t:List Qu):List ByteArray:=t.map (·.res.name)
theorem rW:∀{l:List Qu} {p:Option ByteArray},ka p l=true→∀q∈l,av q=true
 | [],_,_,q,hq=>absurd hq (by simp)
 | x :: l,p,h,q,hq=>by
  rw [dP] at h
  simp only [Bool.and_eq_true] at h
  rcases List.mem_cons.1 hq with rfl|hq
  ·exact h.1.1
  ·exact rW h.2 q hq
theorem xv {q':Qu} (hs:av q'=true):∀{l:List Qu} {p:Option ByteArray} {i:Nat} (h:i<l.length),ka p l=true→q'.res.name=l[i].res.name→ka p (l.set i q')=true
 | [],_,_,h,_,_=>absurd h (by simp)
 | x :: l,p,0,h,hv,hn=>by
  rw [dP] at hv
  simp only [Bool.and_eq_true] at hv
  have hn':q'.res.name=x.res.name:=hn
  rw [List.set_cons_zero,dP,hn']
  simp only [Bool.and_eq_true]
  exact ⟨⟨hs,hv.1.2⟩,hv.2⟩
 | x :: l,p,i+1,h,hv,hn=>by
  rw [dP] at hv
  simp only [Bool.and_eq_true] at hv
  rw [List.set_cons_succ,dP]
  simp only [Bool.and_eq_true]
  exact ⟨hv.1,xv hs (by simpa using h) hv.2 (by simpa using hn)⟩
def fD (a b:ByteArray):Bool:=Op.bytesLess a.toList b.toList
theorem eh {a b c:ByteArray} (h1:fD a b=true) (h2:fD b c=true):fD a c=true:=by
 unfold fD at *
 rw [bytesLess_eq,decide_eq_true_eq] at *
 exact List.lt_trans h1 h2
theorem dt (a:ByteArray):fD a a=false:=by
 unfold fD
 rw [bytesLess_eq,decide_eq_false_iff_not]
 exact List.lt_irrefl _
theorem nX:∀{l:List Qu} {p:Option ByteArray},ka p l=true→(gz l).Pairwise (fun a b=>fD a b=true)∧∀m,p=some m→∀n∈gz l,fD m n=true
 | [],_,_=>⟨by simp [gz],fun _ _ n hn=>absurd hn (by simp [gz])⟩
 | x :: l,p,h=>by
  rw [dP] at h
  simp only [Bool.and_eq_true] at h
  obtain ⟨h1,h2⟩:=nX h.2
  refine ⟨List.pairwise_cons.2 ⟨fun n hn=>h2 _ rfl n hn,h1⟩,?_⟩
  intro m hm n hn
  subst hm
  have h3:fD m x.res.name=true:=h.1.2
  rcases List.mem_cons.1 (show n∈x.res.name :: gz l from hn) with rfl|hn
  ·exact h3
  ·exact eh h3 (h2 _ rfl n hn)
theorem cr {t:List Qu} (h:eO t=true):t.length≤8∧ka none t=true∧(aD t).length≤8:=by
 unfold eO eU at h
 simp only [Bool.and_eq_true,decide_eq_true_eq] at h
 exact ⟨h.1.1,h.1.2,h.2⟩
theorem xw {t:List Qu} (h:eO t=true):(gz t).Nodup:=by
 have:=(nX (cr h).2.1).1
 exact this.imp fun {a b} hab e=>by rw [e,dt] at hab;cases hab
theorem dK {t:List Qu} (h:eO t=true) {q:Qu} (hq:q∈t):av q=true:=rW (cr h).2.1 q hq
theorem rX {a b:ByteArray}:(a.toList == b.toList)=true↔a=b:=by
 rw [beq_iff_eq]
 exact ⟨toList_inj,fun h=>by rw [h]⟩
theorem xy:∀{t:List Qu} {i k:Nat} (h:i<t.length),(gz t).Nodup→bw t[i].res.name k t=((k+i:Nat):Int)
 | [],_,_,h,_=>absurd h (by simp)
 | q :: t,0,k,h,_=>by
  rw [fR]
  have:(q.res.name.toList == ((q :: t)[0]).res.name.toList)=true:=by simp
  rw [this]
  simp
 | q :: t,i+1,k,h,hn=>by
  have hn':(q.res.name :: gz t).Nodup:=hn
  rw [List.nodup_cons] at hn'
  rw [fR]
  have hi:i<t.length:=by simpa using h
  have hne:(q.res.name.toList == ((q :: t)[i+1]).res.name.toList)=false:=by
   cases hc:(q.res.name.toList == ((q :: t)[i+1]).res.name.toList) with
   | false=>rfl
   | true =>
    have e:=rX.1 hc
    exact absurd (e▸List.mem_map.2 ⟨t[i],List.getElem_mem hi,rfl⟩) hn'.1
  rw [hne,cond_false]
  have:=xy (k:=k+1) hi hn'.2
  simp only [List.getElem_cons_succ]
  rw [this]
  omega
theorem mR:∀{t:List Qu} {n:ByteArray} {k:Nat},0≤bw n k t→∃i,∃h:i<t.length,bw n k t=((k+i:Nat):Int)∧t[i].res.name=n
 | [],n,k,h=>by simp [bw] at h
 | q :: t,n,k,h=>by
  rw [fR] at h ⊢
  cases hc:(q.res.name.toList == n.toList) with
  | true=>exact ⟨0,by simp,by simp,rX.1 hc⟩
  | false =>
   rw [hc,cond_false] at h
   rw [cond_false]
   obtain ⟨i,hi,h1,h2⟩:=mR h
   exact ⟨i+1,by simpa using hi,by rw [h1];omega,by simpa using h2⟩
structure TOut (t t':List Qu) (i:Nat) (p:Pr):Prop where
 lt:i<t.length
 set:∃q,t'=t.set i q∧Out t[i] q p
theorem TOut.len {t t':List Qu} {i:Nat} {p:Pr} (h:TOut t t' i p):t'.length=t.length:=by obtain ⟨q,rfl,_⟩:=h.set;simp
theorem TOut.at {t t':List Qu} {i:Nat} {p:Pr} (h:TOut t t' i p):∃q,t'[i]? = some q∧Out (t[i]'h.lt) q p:=by
 obtain ⟨q,rfl,ho⟩:=h.set
 exact ⟨q,by rw [List.getElem?_set_self h.lt],ho⟩
theorem TOut.other {t t':List Qu} {i:Nat} {p:Pr} (h:TOut t t' i p) {j:Nat} (hj:j≠i):t'[j]? = t[j]?:=by
 obtain ⟨q,rfl,_⟩:=h.set
 rw [List.getElem?_set_ne (Ne.symm hj)]
theorem TOut.names {t t':List Qu} {i:Nat} {p:Pr} (h:TOut t t' i p):gz t'=gz t:=by
 obtain ⟨q,rfl,ho⟩:=h.set
 unfold gz
 rw [List.map_set]
 have e:q.res.name=(t[i]'h.lt).res.name:=by rw [ho.res]
 rw [e]
 apply List.ext_getElem
 ·simp
 ·intro j h1 h2
  rw [List.getElem_set]
  split
  ·next hij=>subst hij;simp
  ·rfl
theorem t7 {t t':List Qu} {i:Nat} {p:Pr} (hv:eO t=true) (h:TOut t t' i p):∀r∈aD t',r=p∨r∈aD t:=by
 obtain ⟨q,rfl,ho⟩:=h.set
 intro r hr
 unfold aD at hr ⊢
 rw [cb,gy] at hr ⊢
 obtain ⟨x,hx,hrx⟩:=hr
 rcases List.mem_or_eq_of_mem_set hx with hx|rfl
 ·exact .inr ⟨x,hx,hrx⟩
 ·by_cases hrp:r=p
  ·exact .inl hrp
  ·right
   have h1:=(d9 (aH ho.ok) r).1 hrx
   have hm:t[i]'h.lt∈t:=List.getElem_mem h.lt
   exact ⟨_,hm,(d9 (aH (dK hv hm)) r).2 ((ho.eff r hrp).has h1)⟩
theorem fE (t:List Qu):(aD t).Nodup:=by
 unfold List.Nodup aD
 exact (gX (gp t)).imp fun {a b} (hab:f8 a b) (e:a=b)=>by rw [e] at hab;exact bH b hab
theorem TOut.valid {t t':List Qu} {i:Nat} {p:Pr} (hv:eO t=true) (h:TOut t t' i p) (hp:(aD t).length≤7∨p∈aD t∨p ∉ aD t'):eO t'=true:=by
 have hsub:=t7 hv h
 obtain ⟨q,rfl,ho⟩:=h.set
 obtain ⟨h1,h2,h3⟩:=cr hv
 unfold eO eU
 simp only [Bool.and_eq_true,decide_eq_true_eq]
 refine ⟨⟨by simpa using h1,xv ho.ok h.lt h2 (by rw [ho.res])⟩,?_⟩
 rcases hp with hp|hp|hp
 ·have h4:=ir (m:=p :: aD t) (fE (t.set i q)) fun r hr=>by
   rcases hsub r hr with e|e
   ·simp [e]
   ·simp [e]
  rw [List.length_cons] at h4
  omega
 ·have h4:=ir (m:=aD t) (fE (t.set i q)) fun r hr=>by
   rcases hsub r hr with e|e
   ·rw [e];exact hp
   ·exact e
  omega
 ·have h4:=ir (m:=aD t) (fE (t.set i q)) fun r hr=>by
   rcases hsub r hr with e|e
   ·exact absurd (e▸hr) hp
   ·exact e
  omega
theorem rY {r:Rs} {a:Am} (h:aC r a=true):bG r ⟨0,0⟩ a=a:=by
 have hs:be r=true:=by unfold aC at h;rw [Bool.and_eq_true] at h;exact h.1
 have hp:=cJ h
 have hz:=dT h
 have p0:bK r ⟨0,0⟩=true:=by unfold bK aF;rw [hs];rfl
 have z0:aF ⟨0,0⟩=true:=rfl
 have c1:aY r ⟨0,0⟩ a=false:=by unfold aY;rw [p0,hp,hz,z0];simp
 have c2:aY r a ⟨0,0⟩=true:=by unfold aY;rw [p0,hp,z0];simp
 unfold bG
 rw [p0,hp,c1,c2]
 rfl
theorem vA {q:Qu} {p:Pr} {a:Am} {prio:Int} (h:(bt q p a prio).2.2=0):av q=true∧fo p=true∧(0≤prio∧prio≤7)∧aC q.res a=true∧ai q p=none∧
    ((aY q.res (aj q.holds p) a=true∧bt q p a prio=lU (q,[]))∨
     (aY q.res (aj q.holds p) a=false∧aj q.holds p≠⟨0,0⟩∧bt q p a prio=lU (fN { q with convs:=q.convs++[⟨p,bG q.res (aj q.holds p) a,0,0⟩] }))∨
     (aY q.res (aj q.holds p) a=false∧aj q.holds p=⟨0,0⟩∧q.holds.length+q.waits.length<8∧qN ⟨p,a,prio,0⟩=true∧bt q p a prio=lU (fN { q with waits:=iW q.waits ⟨p,a,prio,0⟩ }))):=by
  unfold bt at h ⊢
  cases hS:av q with
  | false=>rw [hS] at h;simp [bN] at h
  | true =>
    have hd:=aH hS
    rw [hS] at h
    simp only [Bool.not_true,cond_false] at h ⊢
    cases hA:fo p && decide (0≤prio) && decide (prio≤7) with
    | false=>rw [hA] at h;simp [bN] at h
    | true =>
      rw [hA] at h
      simp only [Bool.not_true,cond_false] at h ⊢
      simp only [Bool.and_eq_true,decide_eq_true_eq] at hA
      cases hF:aC q.res a with
      | false=>rw [hF] at h;simp [bN] at h
      | true =>
        rw [hF] at h
        simp only [Bool.not_true,cond_false] at h ⊢
        cases hW:ai q p with
        | some b=>rw [hW] at h;simp [bN] at h
        | none =>
          rw [hW] at h
          simp only [Option.isSome_none,cond_false] at h ⊢
          refine ⟨trivial,hA.1.1,⟨hA.1.2,hA.2⟩,trivial,trivial,?_⟩
          cases hC:aY q.res (aj q.holds p) a with
          | true=>exact .inl ⟨rfl,rfl⟩
          | false =>
            rw [hC] at h
            simp only [cond_false] at h ⊢
            right
            cases hZ:aF (aj q.holds p) with
            | false=>exact .inl ⟨trivial,bq.1 hZ,rfl⟩
            | true =>
              rw [hZ] at h
              simp only [Bool.not_true,cond_false] at h ⊢
              right
              by_cases hl:8≤q.holds.length+q.waits.length
              · rw [decide_eq_true hl] at h;simp [bN] at h
              · rw [decide_eq_false hl] at h ⊢
                simp only [cond_false] at h ⊢
                obtain ⟨e1,hv⟩:=qZ hd hW hF hA.1.1 ⟨hA.1.2,hA.2⟩ (by omega)
                rw [e1]
                simp only [decide_true,Bool.not_true,cond_false]
                exact ⟨by trivial,of_decide_eq_true hZ,by omega,hv,by trivial⟩
theorem xz {q:Qu} {p:Pr} {a:Am} {prio:Int} (hS:av q=true) (hp:fo p=true) (hr:0≤prio∧prio≤7) (hF:aC q.res a=true) (hW:ai q p=none) (hl:aj q.holds p≠⟨0,0⟩∨q.holds.length+q.waits.length<8):(bt q p a prio).2.2=0:=by
 have hd:=aH hS
 unfold bt
 rw [hS,hp,hF,hW,decide_eq_true hr.1,decide_eq_true hr.2]
 simp only [Bool.not_true,Bool.and_self,cond_false,Option.isSome_none]
 cases hC:aY q.res (aj q.holds p) a with
 | true=>rfl
 | false =>
  simp only [cond_false]
  cases hZ:aF (aj q.holds p) with
  | false=>rfl
  | true =>
   have h0:aj q.holds p=⟨0,0⟩:=of_decide_eq_true hZ
   have hl':q.holds.length+q.waits.length<8:=by
    rcases hl with hl|hl
    ·exact absurd h0 hl
    ·exact hl
   obtain ⟨e1,_⟩:=qZ hd hW hF hp hr hl'
   rw [decide_eq_false (show ¬8≤q.holds.length+q.waits.length by omega),e1]
   rfl
structure ClOut (q q':Qu) (p:Pr) (a:Am) (prio:Int):Prop where
 out:Out q q' p
 own:(aY q.res (aj q.holds p) a=true∧q'=q)∨(aY q.res (aj q.holds p) a=false∧((aj q'.holds p=aj q.holds p∧ai q' p=some (bG q.res (aj q.holds p) a))∨(aj q'.holds p=bG q.res (aj q.holds p) a∧ai q' p=none)))
 pr:∀x∈q'.waits,x.proc=p→x.prio=prio
theorem zF {q:Qu} {p:Pr} {a:Am} {prio:Int} (h:(bt q p a prio).2.2=0):ClOut q (bt q p a prio).1 p a prio:=by
 have ho:=zD h
 obtain ⟨hS,hvp,hr,hF,hW,hc⟩:=vA h
 have hd:=aH hS
 have hno:=dR.1 hW
 rcases hc with ⟨hC,e⟩|⟨hC,h0,e⟩|⟨hC,h0,hl,hv,e⟩
 ·rw [e] at ho ⊢
  exact ⟨ho,.inl ⟨hC,rfl⟩,fun x hx hp=>absurd hp (hno x (by have h:x∈q.waits:=hx;simp [h]))⟩
 ·rw [e] at ho ⊢
  have hs:=hd.cons h0 hW hF hC
  refine ⟨ho,.inr ⟨hC,?_⟩,fun x hx hp=>?_⟩
  ·have hw:ai { q with convs:=q.convs++[⟨p,bG q.res (aj q.holds p) a,0,0⟩] } p=some (bG q.res (aj q.holds p) a):=by
    unfold ai
    have hm:(⟨p,bG q.res (aj q.holds p) a,0,0⟩:Wt)∈q.convs++[⟨p,bG q.res (aj q.holds p) a,0,0⟩]++q.waits:=by simp
    exact rU (x:=⟨p,bG q.res (aj q.holds p) a,0,0⟩) hs.nd hm
   rcases qY hs p with ⟨h1,h2⟩|⟨b,h1,h2,h3⟩
   ·exact .inl ⟨h1,h2.trans hw⟩
   ·rw [hw] at h1
    injection h1 with h1
    exact .inr ⟨h2.trans h1.symm,h3⟩
  ·have h1:=pk hx
   exact absurd hp (hno x (by have h:x∈q.waits:=h1;simp [h]))
 ·rw [e] at ho ⊢
  have hs:=hd.ins (w:=⟨p,a,prio,0⟩) h0 hW hF hv hl
  have hJ:bG q.res (aj q.holds p) a=a:=by rw [h0];exact rY hF
  refine ⟨ho,.inr ⟨hC,?_⟩,fun x hx hp=>?_⟩
  ·rw [hJ]
   have hw:ai { q with waits:=iW q.waits ⟨p,a,prio,0⟩ } p=some a:=by
    unfold ai
    have hm:(⟨p,a,prio,0⟩:Wt)∈q.convs++iW q.waits ⟨p,a,prio,0⟩:=by
     rw [List.mem_append]
     right
     unfold iW
     simp
    exact rU (x:=⟨p,a,prio,0⟩) hs.nd hm
   rcases qY hs p with ⟨h1,h2⟩|⟨b,h1,h2,h3⟩
   ·exact .inl ⟨h1,h2.trans hw⟩
   ·rw [hw] at h1
    injection h1 with h1
    exact .inr ⟨h2.trans h1.symm,h3⟩
  ·rcases rT (pk hx) with rfl|h1|⟨y,h1,rfl,_,_⟩
   ·rfl
   ·exact absurd hp (hno x (by simp [h1]))
   ·exact absurd (show y.proc=p from hp) (hno y (by simp [h1]))
theorem tx {q:Qu} {p:Pr} (h:(bo q p).2.2=0):av q=true∧(ai q p).isSome=true∧bo q p=lU (fN { q with convs:=ck q.convs p,waits:=ck q.waits p }):=by
 unfold bo at h ⊢
 cases hS:av q with
 | false=>rw [hS] at h;simp [bN] at h
 | true =>
  rw [hS] at h
  simp only [Bool.not_true,cond_false] at h ⊢
  cases hW:(ai q p).isSome with
  | false=>rw [hW] at h;simp [bN] at h
  | true=>exact ⟨by trivial,by trivial,by trivial⟩
theorem vC {q:Qu} {p:Pr} (hS:av q=true) (hW:(ai q p).isSome=true):(bo q p).2.2=0:=by unfold bo;rw [hS,hW];rfl
theorem jF {r:Qu} {p:Pr} (hs:Sd r) (hw:ai r p=none):aj (fN r).1.holds p=aj r.holds p∧ai (fN r).1 p=none:=by
 rcases qY hs p with ⟨h1,h2⟩|⟨b,h1,_⟩
 ·exact ⟨h1,h2.trans hw⟩
 ·rw [hw] at h1;cases h1
theorem xA {q:Qu} {p:Pr} (h:(bo q p).2.2=0):Out q (bo q p).1 p∧aj (bo q p).1.holds p=aj q.holds p∧ai (bo q p).1 p=none:=by
 have ho:=xt h
 obtain ⟨hS,_,e⟩:=tx h
 have hd:=aH hS
 rw [e] at ho ⊢
 exact ⟨ho,jF (hd.drop p) (by rw [jE,if_pos rfl])⟩
theorem vD {q:Qu} {p:Pr} {a:Am} (h:(bz q p a).2.2=0):av q=true∧aj q.holds p≠⟨0,0⟩∧ai q p=none∧aY q.res (aj q.holds p) a=true∧((aj q.holds p=a∧bz q p a=lU (q,[]))∨(aj q.holds p≠a∧bz q p a=lU (fN { q with holds:=cM q.holds p a }))):=by
 unfold bz at h ⊢
 cases hS:av q with
 | false=>rw [hS] at h;simp [bN] at h
 | true =>
  rw [hS] at h
  simp only [Bool.not_true,cond_false] at h ⊢
  cases hZ:aF (aj q.holds p) with
  | true=>rw [hZ] at h;simp [bN] at h
  | false =>
   rw [hZ] at h
   simp only [cond_false] at h ⊢
   cases hW:ai q p with
   | some b=>rw [hW] at h;simp [bN] at h
   | none =>
    rw [hW] at h
    simp only [Option.isSome_none,cond_false] at h ⊢
    cases hC:aY q.res (aj q.holds p) a with
    | false=>rw [hC] at h;simp [bN] at h
    | true =>
     simp only [Bool.not_true,cond_false]
     refine ⟨trivial,bq.1 hZ,trivial,trivial,?_⟩
     by_cases hE:aj q.holds p=a
     ·rw [decide_eq_true hE]
      exact .inl ⟨hE,rfl⟩
     ·rw [decide_eq_false hE]
      exact .inr ⟨hE,rfl⟩
theorem xB {q:Qu} {p:Pr} {a:Am} (hS:av q=true) (h0:aj q.holds p≠⟨0,0⟩) (hW:ai q p=none) (hC:aY q.res (aj q.holds p) a=true):(bz q p a).2.2=0:=by
 unfold bz
 rw [hS,bq.2 h0,hW,hC]
 simp only [Bool.not_true,cond_false,Option.isSome_none]
 cases decide (aj q.holds p=a) <;> rfl
theorem zG {q:Qu} {p:Pr} {a:Am} (h:(bz q p a).2.2=0):Out q (bz q p a).1 p∧aj (bz q p a).1.holds p=a∧ai (bz q p a).1 p=none:=by
 have ho:=zE h
 obtain ⟨hS,h0,hW,hC,hc⟩:=vD h
 have hd:=aH hS
 rcases hc with ⟨hE,e⟩|⟨_,e⟩
 ·rw [e] at ho ⊢
  exact ⟨ho,hE,hW⟩
 ·rw [e] at ho ⊢
  have h1:=jF (hd.lower hW h0 hC) (p:=p) hW
  refine ⟨ho,h1.1.trans ?_,h1.2⟩
  show aj (cM q.holds p a) p=a
  rw [eM,if_pos rfl]
theorem tz {q:Qu} {p:Pr} (h:(bg q p).2.2=0):av q=true∧eF q p=true∧bg q p=lU (fN { q with holds:=cM q.holds p ⟨0,0⟩,convs:=ck q.convs p,waits:=ck q.waits p }):=by
 unfold bg at h ⊢
 cases hS:av q with
 | false=>rw [hS] at h;simp [bN] at h
 | true =>
  rw [hS] at h
  simp only [Bool.not_true,cond_false] at h ⊢
  cases hH:eF q p with
  | false=>rw [hH] at h;simp [bN] at h
  | true=>exact ⟨by trivial,by trivial,by trivial⟩
theorem vE {q:Qu} {p:Pr} (hS:av q=true) (hH:eF q p=true):(bg q p).2.2=0:=by unfold bg;rw [hS,hH];rfl
theorem xC {q:Qu} {p:Pr} (h:(bg q p).2.2=0):Out q (bg q p).1 p∧aj (bg q p).1.holds p=⟨0,0⟩∧ai (bg q p).1 p=none:=by
 have ho:=xu h
 obtain ⟨hS,_,e⟩:=tz h
 have hd:=aH hS
 rw [e] at ho ⊢
 have hw:ai { q with holds:=cM q.holds p ⟨0,0⟩,convs:=ck q.convs p,waits:=ck q.waits p } p=none:=by
  have:=jE q p p
  rw [if_pos rfl] at this
  exact this
 have h1:=jF (hd.gone p) hw
 refine ⟨ho,h1.1.trans ?_,h1.2⟩
 show aj (cM q.holds p ⟨0,0⟩) p=_
 rw [eM,if_pos rfl]
structure Ev where
 kind:Int
 proc:Pr
 name:ByteArray
 am:Am
deriving DecidableEq
def aW (n:ByteArray) (l:List Ho):List Ev:=l.map fun h=>⟨1,h.proc,n,h.am⟩
def fF (e:Int):List Qu×List Ev×Int:=([],[],e)
def iZ (t:List Qu) (n:ByteArray):Nat:=(bw n 0 t).toNat
def bI (t:List Qu) (p:Pr) (a:Tm) (prio:Int):List Qu×List Ev×Int :=
 bif !eO t then fF 2 else bif decide (bw a.name 0 t<0) then fF 10 else
 bif decide ((aD t).length=8) && !decide (p∈aD t) then fF 4 else
 bif !decide ((bt (t.getD (iZ t a.name) vz) p a.am prio).2.2=0) then fF (bt (t.getD (iZ t a.name) vz) p a.am prio).2.2 else
 (t.set (iZ t a.name) (bt (t.getD (iZ t a.name) vz) p a.am prio).1,aW a.name (bt (t.getD (iZ t a.name) vz) p a.am prio).2.1,0)
def cU (t:List Qu) (p:Pr) (n:ByteArray):List Qu×List Ev×Int :=
 bif !eO t then fF 2 else bif decide (bw n 0 t<0) then fF 10 else
 bif !decide ((bo (t.getD (iZ t n) vz) p).2.2=0) then fF (bo (t.getD (iZ t n) vz) p).2.2 else
 (t.set (iZ t n) (bo (t.getD (iZ t n) vz) p).1,aW n (bo (t.getD (iZ t n) vz) p).2.1,0)
def cl (t:List Qu) (p:Pr) (a:Tm):List Qu×List Ev×Int :=
 bif !eO t then fF 2 else bif decide (bw a.name 0 t<0) then fF 10 else
 bif !decide ((bz (t.getD (iZ t a.name) vz) p a.am).2.2=0) then fF (bz (t.getD (iZ t a.name) vz) p a.am).2.2 else
 (t.set (iZ t a.name) (bz (t.getD (iZ t a.name) vz) p a.am).1,(bif decide (aj (t.getD (iZ t a.name) vz).holds p=a.am) then [] else [⟨3,p,a.name,a.am⟩])++aW a.name (bz (t.getD (iZ t a.name) vz) p a.am).2.1,0)
def aQ (p:Pr):List Qu→List Qu×List Ev
 | []=>([],[])
 | q :: l=>bif !eF q p then (q :: (aQ p l).1,(aQ p l).2) else
  ((bg q p).1 :: (aQ p l).1,(bif aF (aj q.holds p) then [] else [⟨3,p,q.res.name,⟨0,0⟩⟩])++aW (bg q p).1.res.name (bg q p).2.1++(aQ p l).2)
def bO (t:List Qu) (p:Pr):List Qu×List Ev:=bif !eO t then ([],[]) else aQ p t
structure En where
 name:ByteArray
 before:Am
 after:Am
deriving DecidableEq
structure Sv where
 label:Int
 at_:Int
deriving DecidableEq
def aT (a b:ByteArray):Bool:=a.toList == b.toList
theorem aV {a b:ByteArray}:aT a b=true↔a=b:=rX
theorem cc {a b:ByteArray}:aT a b=false↔a≠b:=by
 rw [←Bool.not_eq_true,aV]
def cz (n:ByteArray):Am→List En→Am
 | a,[]=>a
 | a,e :: l=>cz n (bif aT e.name n then e.after else a) l
def ay (l:List En) (n:ByteArray):Am:=cz n ⟨0,0⟩ l
theorem mS (n:ByteArray):∀(l m:List En) (a:Am),cz n a (l++m)=cz n (cz n a l) m
 | [],_,_=>rfl
 | e :: l,m,a=>mS n l m _
theorem jG (l:List En) (e:En) (n:ByteArray):ay (l++[e]) n=bif aT e.name n then e.after else ay l n:=by
 unfold ay
 rw [mS]
 rfl
def cm (a b:Am):Bool:=aR b && !decide (a=b) && (aF a || aR a && (bif !decide (a.mode=0) then cu b.mode a.mode else decide (a.units<b.units)))
def fO (pre:List En):List En→Bool
 | []=>true
 | e :: l=>bE e.name.toList && decide (e.before=ay pre e.name) && cm e.before e.after && fO (pre++[e]) l
def dF (n:ByteArray):List ByteArray→Bool
 | []=>false
 | m :: l=>aT m n || dF n l
theorem gA {n:ByteArray}:∀{l:List ByteArray},dF n l=true↔n∈l
 | []=>by simp [dF]
 | m :: l=>by
  show (aT m n || dF n l)=true↔_
  rw [Bool.or_eq_true,aV,gA,List.mem_cons]
  exact or_congr_left ⟨Eq.symm,Eq.symm⟩
def gR (n:ByteArray):List ByteArray→List ByteArray
 | []=>[n]
 | m :: l=>bif fD n m then n :: m :: l else m :: gR n l
theorem nY {n x:ByteArray}:∀{l:List ByteArray},x∈gR n l↔x=n∨x∈l
 | []=>by simp [gR]
 | m :: l=>by
  show x∈(bif fD n m then n :: m :: l else m :: gR n l)↔_
  cases fD n m with
  | true=>simp
  | false =>
   rw [cond_false,List.mem_cons,nY,List.mem_cons]
   constructor
   ·rintro (h|h|h) <;> simp [h]
   ·rintro (h|h|h) <;> simp [h]
def dh:List ByteArray→List En→List ByteArray
 | acc,[]=>acc
 | acc,e :: l=>dh (bif dF e.name acc then acc else gR e.name acc) l
def bp (l:List En):List ByteArray:=dh [] l
theorem qk {x:ByteArray}:∀{l:List En} {acc:List ByteArray},x∈dh acc l↔x∈acc∨∃e∈l,e.name=x
 | [],acc=>by simp [dh]
 | e :: l,acc=>by
  show x∈dh _ l↔_
  rw [qk]
  have h:x∈(bif dF e.name acc then acc else gR e.name acc)↔x∈acc∨e.name=x:=by
   cases hh:dF e.name acc with
   | true =>
    rw [cond_true]
    constructor
    ·exact .inl
    ·rintro (h|h)
     ·exact h
     ·exact h▸gA.1 hh
   | false =>
    rw [cond_false,nY]
    constructor
    ·rintro (h|h)
     ·exact .inr h.symm
     ·exact .inl h
    ·rintro (h|h)
     ·exact .inr h
     ·exact .inl h.symm
  rw [h]
  constructor
  ·rintro ((h|h)|⟨f,h1,h2⟩)
   ·exact .inl h
   ·exact .inr ⟨e,by simp,h⟩
   ·exact .inr ⟨f,by simp [h1],h2⟩
  ·rintro (h|⟨f,h1,h2⟩)
   ·exact .inl (.inl h)
   ·rcases List.mem_cons.1 h1 with rfl|h1
    ·exact .inl (.inr h2)
    ·exact .inr ⟨f,h1,h2⟩
theorem du {l:List En} {x:ByteArray}:x∈bp l↔∃e∈l,e.name=x:=by unfold bp;rw [qk];simp
def iG (l:List ByteArray):Prop:=l.Pairwise fun a b=>fD a b=true
theorem lV {a b:ByteArray} (h1:fD a b=false) (h2:a≠b):fD b a=true:=by
 unfold fD at *
 rw [bytesLess_eq,decide_eq_false_iff_not] at h1
 rw [bytesLess_eq,decide_eq_true_eq]
 rcases Std.lt_trichotomy a.toList b.toList with h|h|h
 ·exact absurd h h1
 ·exact absurd (toList_inj h) h2
 ·exact h
theorem nZ {n:ByteArray}:∀{l:List ByteArray},iG l→n ∉ l→iG (gR n l)
 | [],_,_=>by simp [gR,iG]
 | m :: l,h,hn=>by
  obtain ⟨h1,h2⟩:=List.pairwise_cons.1 h
  show iG (bif fD n m then n :: m :: l else m :: gR n l)
  cases hc:fD n m with
  | true =>
   refine List.pairwise_cons.2 ⟨fun x hx=>?_,h⟩
   rcases List.mem_cons.1 hx with rfl|hx
   ·exact hc
   ·exact eh hc (h1 x hx)
  | false =>
   have hm:fD m n=true:=lV hc (fun e=>hn (by simp [e]))
   refine List.pairwise_cons.2 ⟨fun x hx=>?_,nZ h2 (fun hx=>hn (by simp [hx]))⟩
   rcases nY.1 hx with rfl|hx
   ·exact hm
   ·exact h1 x hx
theorem qm:∀{l:List En} {acc:List ByteArray},iG acc→iG (dh acc l)
 | [],_,h=>h
 | e :: l,acc,h=>by
  refine qm (l:=l) ?_
  cases hh:dF e.name acc with
  | true=>exact h
  | false=>exact nZ h fun hm=>by rw [gA.2 hm] at hh;cases hh
theorem fU (l:List En):iG (bp l):=qm (by simp [iG])
def aE (n:Int):Nat→List Sv→Int
 | _,[]=>-1
 | k,s :: l=>bif decide (s.label=n) then (k:Int) else aE n (k+1) l
def mt (all:List Sv) (n:Int):Nat→Int→List Sv→Bool
 | _,_,[]=>true
 | k,at_,s :: l=>decide (1≤s.label) && decide (s.label≤99) && decide (0≤s.at_) && decide (s.at_≤n) && decide (at_≤s.at_) && decide (aE s.label 0 all=(k:Int)) && mt all n (k+1) s.at_ l
def kh (l:List En) (s:List Sv):Bool:=decide (l.length≤72) && decide (s.length≤4) && fO [] l && decide ((bp l).length≤8) && mt s l.length 0 0 s
structure EntOk (pre:List En) (e:En):Prop where
 nm:bE e.name.toList=true
 bef:e.before=ay pre e.name
 gr:cm e.before e.after=true
def Ents (l:List En):Prop:=∀k (h:k<l.length),EntOk (l.take k) l[k]
theorem t8:∀(l pre:List En),fO pre l=true↔∀k (h:k<l.length),EntOk (pre++l.take k) l[k]
 | [],_=>by simp [fO]
 | e :: l,pre=>by
  show (bE e.name.toList && decide (e.before=ay pre e.name) && cm e.before e.after && fO (pre++[e]) l)=true↔_
  simp only [Bool.and_eq_true,decide_eq_true_eq,t8 l]
  constructor
  ·rintro ⟨⟨⟨h1,h2⟩,h3⟩,h4⟩ k hk
   cases k with
   | zero=>simpa using ⟨h1,h2,h3⟩
   | succ k =>
    have:=h4 k (by simpa using hk)
    simpa [List.append_assoc] using this
  ·intro h
   have h0:=h 0 (by simp)
   simp only [List.take_zero,List.append_nil,List.getElem_cons_zero] at h0
   refine ⟨⟨⟨h0.nm,h0.bef⟩,h0.gr⟩,fun k hk=>?_⟩
   have:=h (k+1) (by simpa using hk)
   simpa [List.append_assoc] using this
theorem xD {l:List En}:fO [] l=true↔Ents l:=by
 rw [t8]
 unfold Ents
 simp
theorem Ents.snoc {l:List En} {e:En}:Ents (l++[e])↔Ents l∧EntOk l e:=by
 constructor
 ·intro h
  refine ⟨fun k hk=>?_,?_⟩
  ·have h1:=h k (by simp;omega)
   rw [List.take_append_of_le_length (by omega),List.getElem_append_left hk] at h1
   exact h1
  ·have h1:=h l.length (by simp)
   simpa using h1
 ·rintro ⟨h1,h2⟩ k hk
  by_cases hl:k<l.length
  ·rw [List.take_append_of_le_length (by omega),List.getElem_append_left hl]
   exact h1 k hl
  ·have:k=l.length:=by simp at hk;omega
   subst this
   simpa using h2
theorem Ents.take {l:List En} (h:Ents l) (n:Nat):Ents (l.take n):=by
 intro k hk
 have h1:k<l.length:=by rw [List.length_take] at hk;omega
 have h2:=h k h1
 have h3:(l.take n).take k=l.take k:=by rw [List.take_take];congr 1;rw [List.length_take] at hk;omega
 rw [h3,List.getElem_take]
 exact h2
theorem n4 {P:List En→Prop} (h0:P []) (hs:∀l e,Ents l→EntOk l e→P l→P (l++[e])):∀l,Ents l→P l:=by
 intro l
 have:∀n (l:List En),l.length=n→Ents l→P l:=by
  intro n
  induction n with
  | zero=>intro l hl _;rw [List.eq_nil_of_length_eq_zero hl];exact h0
  | succ n ih =>
   intro l hl h
   have hne:l≠[]:=by rintro rfl;simp at hl
   have e:=List.dropLast_concat_getLast hne
   rw [←e] at h
   obtain ⟨h1,h2⟩:=Ents.snoc.1 h
   rw [←e]
   exact hs _ _ h1 h2 (ih _ (by rw [List.length_dropLast];omega) h1)
 exact this _ l rfl
def ID (b a:Am):Prop:=a=b∨(aR a=true∧aR b=true∧((a.mode≠0∧cu b.mode a.mode=true)∨(a.mode=0∧b.mode=0∧a.units<b.units)))
theorem cA {a:Am} (h:aR a=true):(cn a.mode=true∧a.units=0)∨(a.mode=0∧1≤a.units∧a.units≤8):=by
 unfold aR at h
 simp only [Bool.or_eq_true,Bool.and_eq_true,decide_eq_true_eq] at h
 rcases h with h|h
 ·exact .inl h
 ·exact .inr ⟨h.1.1,h.1.2,h.2⟩
theorem fg {m:Int}:cn m=true↔1≤m∧m≤5:=by unfold cn;simp
theorem n5 {a b:Int}:cu a b=true↔(1≤a∧a≤5)∧(1≤b∧b≤5)∧(a=b∨a=5∨b=1∨(a=4∧b≠5)):=by
 unfold cu
 simp only [Bool.and_eq_true,Bool.or_eq_true,decide_eq_true_eq,Bool.not_eq_true',decide_eq_false_iff_not,fg]
 constructor
 ·rintro ⟨⟨h1,h2⟩,h3⟩;exact ⟨h1,h2,by rcases h3 with ((h|h)|h)|h <;> simp [h]⟩
 ·rintro ⟨h1,h2,h3⟩;exact ⟨⟨h1,h2⟩,by rcases h3 with h|h|h|h <;> simp [h]⟩
theorem n7 {a b:Am} (h:cm a b=true):aR b=true∧a≠b∧(a=⟨0,0⟩∨(aR a=true∧ID b a)):=by
 unfold cm at h
 simp only [Bool.and_eq_true,Bool.not_eq_true',decide_eq_false_iff_not,Bool.or_eq_true] at h
 obtain ⟨⟨h1,h2⟩,h3⟩:=h
 refine ⟨h1,h2,?_⟩
 rcases h3 with h3|⟨h3,h4⟩
 ·exact .inl (of_decide_eq_true h3)
 ·refine .inr ⟨h3,.inr ⟨h3,h1,?_⟩⟩
  by_cases hm:a.mode=0
  ·rw [decide_eq_true hm,Bool.not_true,cond_false,decide_eq_true_eq] at h4
   refine .inr ⟨hm,?_,h4⟩
   rcases cA h1 with ⟨h5,h6⟩|⟨h5,_⟩
   ·rcases cA h3 with ⟨h7,_⟩|⟨_,h7,_⟩
    ·rw [hm] at h7;exact absurd h7 (by decide)
    ·omega
   ·exact h5
  ·rw [decide_eq_false hm,Bool.not_false,cond_true] at h4
   exact .inl ⟨hm,h4⟩
theorem Cp {a b c:Am} (h1:ID c b) (h2:ID b a):ID c a:=by
 rcases h1 with rfl|⟨u1,u2,h1⟩
 ·exact h2
 ·rcases h2 with rfl|⟨u3,_,h2⟩
  ·exact .inr ⟨u1,u2,h1⟩
  ·refine .inr ⟨u3,u2,?_⟩
   rcases h2 with ⟨h3,h4⟩|⟨h3,h4,h5⟩
   ·rcases h1 with ⟨h6,h7⟩|⟨h6,_,_⟩
    ·refine .inl ⟨h3,?_⟩
     rw [n5] at h4 h7 ⊢
     omega
    ·rw [n5] at h4
     omega
   ·rcases h1 with ⟨h6,_⟩|⟨_,h6,h7⟩
    ·exact absurd h4 h6
    ·exact .inr ⟨h3,h6,by omega⟩
def F6 (a:Am):Int:=a.mode+a.units
theorem DY {a b:Am} (h:cm a b=true):F6 a<F6 b∧F6 b≤8:=by
 obtain ⟨h1,h2,h3⟩:=n7 h
 obtain ⟨am,au⟩:=a
 obtain ⟨bm,bu⟩:=b
 unfold F6
 have hb:=cA h1
 simp only [fg] at hb
 dsimp only at *
 rcases h3 with h3|⟨h3,h4⟩
 ·injection h3 with e1 e2
  subst e1
  subst e2
  omega
 ·have ha:=cA h3
  simp only [fg] at ha
  rcases h4 with h4|⟨_,_,h4⟩
  ·exact absurd h4 h2
  ·dsimp only at h4
   rcases h4 with ⟨h5,h6⟩|⟨h5,h6,h7⟩
   ·rw [n5] at h6
    have:¬(am=bm∧au=bu):=fun e=>h2 (by rw [e.1,e.2])
    omega
   ·omega
theorem ua {l:List En} (h:Ents l) (n:ByteArray):∀k,ay (l.take k) n=⟨0,0⟩∨ID (ay l n) (ay (l.take k) n):=by
 refine n4 (P:=fun l=>∀k,ay (l.take k) n=⟨0,0⟩∨ID (ay l n) (ay (l.take k) n)) (fun k=>.inl (by simp [ay,cz])) ?_ l h
 intro l e _ he ih k
 by_cases hk:k≤l.length
 ·rw [List.take_append_of_le_length hk,jG]
  rcases ih k with h1|h1
  ·exact .inl h1
  ·cases hn:aT e.name n with
   | false=>exact .inr h1
   | true =>
    have hnn:=aV.1 hn
    subst hnn
    rw [cond_true]
    obtain ⟨_,_,h2⟩:=n7 he.gr
    rw [he.bef] at h2
    rcases h2 with h2|⟨_,h2⟩
    ·rw [h2] at h1
     rcases h1 with h1|⟨h1,h3,_⟩
     ·exact .inl h1
     ·exact absurd h3 (by decide)
    ·exact .inr (Cp h2 h1)
 ·rw [List.take_of_length_le (by simp;omega)]
  exact .inr (.inl rfl)
theorem DZ {l:List En} (h:Ents l) (n:ByteArray):((l.filter fun e=>aT e.name n).length:Int)≤F6 (ay l n)∧F6 (ay l n)≤8:=by
 refine n4 (P:=fun l=>((l.filter fun e=>aT e.name n).length:Int)≤F6 (ay l n)∧F6 (ay l n)≤8) ⟨by simp [ay,cz,F6],by simp [ay,cz,F6]⟩ ?_ l h
 intro l e _ he ih
 rw [jG,List.filter_append,List.length_append]
 cases hn:aT e.name n with
 | false =>
  have:[e].filter (fun e=>aT e.name n)=[]:=by simp [hn]
  rw [this]
  simpa using ih
 | true =>
  have hnn:=aV.1 hn
  subst hnn
  have:[e].filter (fun x=>aT x.name e.name)=[e]:=by simp [aT]
  rw [this,cond_true]
  have h1:=DY he.gr
  rw [he.bef] at h1
  simp only [List.length_singleton]
  omega
theorem rZ {α:Type} (p:α→Bool):∀l:List α,l.length=(l.filter p).length+(l.filter fun x=>!p x).length
 | []=>rfl
 | x :: l=>by
  have:=rZ p l
  rw [List.filter_cons,List.filter_cons,List.length_cons]
  cases p x with
  | true=>simp;omega
  | false=>simp;omega
theorem ub:∀(ns:List ByteArray) (l:List En),(∀e∈l,e.name∈ns)→(∀n∈ns,(l.filter fun e=>aT e.name n).length≤8)→l.length≤8*ns.length
 | [],l,h,_=>by
  cases l with
  | nil=>simp
  | cons e l=>exact absurd (h e (by simp)) (by simp)
 | n :: ns,l,h,hc=>by
  have h1:=ub ns (l.filter fun e=>!aT e.name n) (fun e he=>by
   have h2:=(List.mem_filter.1 he)
   rcases List.mem_cons.1 (h e h2.1) with h3|h3
   ·have:=h2.2
    rw [Bool.not_eq_true',cc] at this
    exact absurd h3 this
   ·exact h3) (fun m hm=>Nat.le_trans (((List.filter_sublist (p:=fun e:En=>!aT e.name n) (l:=l)).filter fun e=>aT e.name m).length_le) (hc m (by simp [hm])))
  have h2:=hc n (by simp)
  have h3:=rZ (fun e:En=>aT e.name n) l
  rw [List.length_cons]
  omega
theorem xE {l:List En} (h:Ents l) (hn:(bp l).length≤8):l.length≤64:=by
 have:=ub (bp l) l (fun e he=>du.2 ⟨e,he,rfl⟩) (fun n _=>by have:=DZ h n;omega)
 omega
structure Lg where
 entries:List En
 saves:List Sv
deriving DecidableEq
def n8 (g:Lg):Bool:=kh g.entries g.saves
def Lg.zero:Lg:=⟨[],[]⟩
structure Svs (s:List Sv) (n:Int):Prop where
 lab:∀x∈s,(1≤x.label∧x.label≤99)∧0≤x.at_∧x.at_≤n
 ord:s.Pairwise fun a b=>a.at_≤b.at_
 nd:(s.map (·.label)).Nodup
theorem qn {n:Int}:∀{l:List Sv} {k:Nat},(∀x∈l,x.label≠n)→aE n k l = -1
 | [],_,_=>rfl
 | x :: l,k,h=>by
  show (bif decide (x.label=n) then (k:Int) else aE n (k+1) l) = -1
  rw [decide_eq_false (h x (by simp)),cond_false]
  exact qn fun y hy=>h y (by simp [hy])
theorem gC {n:Int}:∀{l:List Sv} {k:Nat},0≤aE n k l→∃i,∃h:i<l.length,aE n k l=((k+i:Nat):Int)∧l[i].label=n
 | [],k,h=>by simp [aE] at h
 | x :: l,k,h=>by
  have e:aE n k (x :: l)=bif decide (x.label=n) then (k:Int) else aE n (k+1) l:=rfl
  rw [e] at h ⊢
  by_cases hx:x.label=n
  ·exact ⟨0,by simp,by rw [decide_eq_true hx];simp,hx⟩
  ·rw [decide_eq_false hx,cond_false] at h ⊢
   obtain ⟨i,hi,h1,h2⟩:=gC h
   exact ⟨i+1,by simpa using hi,by rw [h1];omega,by simpa using h2⟩
theorem mT {n:Int} {l:List Sv} {k:Nat}:aE n k l<0↔∀x∈l,x.label≠n:=by
 constructor
 ·intro h x hx e
  have gen:∀(l:List Sv) (k:Nat),x∈l→0≤aE n k l:=by
   intro l
   induction l with
   | nil=>intro _ h;cases h
   | cons y l ih =>
    intro k h
    show 0≤(bif decide (y.label=n) then (k:Int) else aE n (k+1) l)
    rcases List.mem_cons.1 h with rfl|h
    ·rw [decide_eq_true e,cond_true];omega
    ·cases decide (y.label=n) with
     | true=>rw [cond_true];omega
     | false=>exact ih (k+1) h
  have:=gen l k hx
  omega
 ·intro h
  rw [qn h]
  omega
theorem r8 {n:Int}:∀(pre:List Sv) (k:Nat) (x:Sv) (l:List Sv),x.label=n→(aE n k (pre++x :: l)=((k+pre.length:Nat):Int)↔∀y∈pre,y.label≠n)
 | [],k,x,l,h=>by
  have:aE n k (x :: l)=bif decide (x.label=n) then (k:Int) else aE n (k+1) l:=rfl
  simp [this,h]
 | y :: pre,k,x,l,h=>by
  have e:aE n k ((y :: pre)++x :: l)=bif decide (y.label=n) then (k:Int) else aE n (k+1) (pre++x :: l):=rfl
  rw [e,List.length_cons]
  by_cases hy:y.label=n
  ·rw [decide_eq_true hy,cond_true]
   constructor
   ·intro h;omega
   ·intro h2;exact absurd hy (h2 y (by simp))
  ·rw [decide_eq_false hy,cond_false]
   have ih:=r8 pre (k+1) x l h
   have e1:((k+(pre.length+1):Nat):Int)=((k+1+pre.length:Nat):Int):=by omega
   rw [e1,ih]
   constructor
   ·intro h2 z hz
    rcases List.mem_cons.1 hz with rfl|hz
    ·exact hy
    ·exact h2 z hz
   ·intro h2 z hz;exact h2 z (by simp [hz])
theorem r9 (n:Int):∀(l pre:List Sv) (a:Int),0≤a→(pre.map (·.label)).Nodup→(mt (pre++l) n pre.length a l=true↔(∀x∈l,(1≤x.label∧x.label≤99)∧0≤x.at_∧x.at_≤n)∧(l.Pairwise fun x y=>x.at_≤y.at_)∧(∀x∈l,a≤x.at_)∧((pre++l).map (·.label)).Nodup)
 | [],pre,a,_,hp=>by
  simpa [mt] using hp
 | x :: l,pre,a,ha,hp=>by
  show (decide (1≤x.label) && decide (x.label≤99) && decide (0≤x.at_) && decide (x.at_≤n) && decide (a≤x.at_) && decide (aE x.label 0 (pre++x :: l)=(pre.length:Int)) && mt (pre++x :: l) n (pre.length+1) x.at_ l)=true↔_
  simp only [Bool.and_eq_true,decide_eq_true_eq]
  have hf:aE x.label 0 (pre++x :: l)=(pre.length:Int)↔∀y∈pre,y.label≠x.label:=by
   have:=r8 pre 0 x l rfl
   rwa [Nat.zero_add] at this
  have hpx:((pre++[x]).map (·.label)).Nodup↔∀y∈pre,y.label≠x.label:=by
   rw [List.map_append,List.nodup_append]
   constructor
   ·rintro ⟨_,_,h⟩ y hy
    exact h y.label (List.mem_map.2 ⟨y,hy,rfl⟩) x.label (by simp)
   ·intro h
    refine ⟨hp,by simp,?_⟩
    intro u hu v hv
    obtain ⟨y,hy,rfl⟩:=List.mem_map.1 hu
    simp at hv
    subst hv
    exact h y hy
  have e1:pre++x :: l=(pre++[x])++l:=by simp
  have e2:pre.length+1=(pre++[x]).length:=by simp
  rw [hf]
  constructor
  ·rintro ⟨⟨⟨⟨⟨⟨h1,h2⟩,h3⟩,h4⟩,h5⟩,h6⟩,h7⟩
   rw [e1,e2,r9 n l (pre++[x]) x.at_ h3 (hpx.2 h6)] at h7
   obtain ⟨k1,k2,k3,k4⟩:=h7
   refine ⟨?_,List.pairwise_cons.2 ⟨k3,k2⟩,?_,by rw [e1];exact k4⟩
   ·intro y hy
    rcases List.mem_cons.1 hy with rfl|hy
    ·exact ⟨⟨h1,h2⟩,h3,h4⟩
    ·exact k1 y hy
   ·intro y hy
    rcases List.mem_cons.1 hy with rfl|hy
    ·exact h5
    ·have:=k3 y hy;omega
  ·rintro ⟨h1,h2,h3,h4⟩
   obtain ⟨k1,k2⟩:=List.pairwise_cons.1 h2
   have hx:=h1 x (by simp)
   rw [e1] at h4
   have h6:∀y∈pre,y.label≠x.label:=hpx.1 (by rw [List.map_append] at h4;exact (List.nodup_append.1 h4).1)
   refine ⟨⟨⟨⟨⟨⟨hx.1.1,hx.1.2⟩,hx.2.1⟩,hx.2.2⟩,h3 x (by simp)⟩,h6⟩,?_⟩
   rw [e1,e2,r9 n l (pre++[x]) x.at_ hx.2.1 (hpx.2 h6)]
   exact ⟨fun y hy=>h1 y (by simp [hy]),k2,k1,h4⟩
structure Ld (g:Lg):Prop where
 slen:g.saves.length≤4
 ents:Ents g.entries
 nms:(bp g.entries).length≤8
 svs:Svs g.saves g.entries.length
theorem eS {g:Lg}:n8 g=true↔Ld g:=by
 unfold n8 kh
 simp only [Bool.and_eq_true,decide_eq_true_eq,xD]
 have h:=r9 (g.entries.length:Int) g.saves [] 0 (Int.le_refl _) (by simp)
 simp only [List.nil_append,List.length_nil] at h
 rw [h]
 constructor
 ·rintro ⟨⟨⟨⟨h1,h2⟩,h3⟩,h4⟩,h5,h6,h7,h8⟩
  exact ⟨h2,h3,h4,h5,h6,h8⟩
 ·rintro ⟨h2,h3,h4,h5,h6,h8⟩
  exact ⟨⟨⟨⟨by have:=xE h3 h4;omega,h2⟩,h3⟩,h4⟩,h5,h6,fun x hx=>(h5 x hx).2.1,h8⟩
def gS (g:Lg) (e:En):Lg×Int:=bif !n8 g then (.zero,2) else bif !n8 ⟨g.entries++[e],g.saves⟩ then (.zero,1) else (⟨g.entries++[e],g.saves⟩,0)
def iN (g:Lg) (n:Int):Lg×Int :=
 bif !n8 g then (.zero,2) else bif !(decide (1≤n) && decide (n≤99)) then (.zero,1) else bif decide (0≤aE n 0 g.saves) then (.zero,11) else bif decide (g.saves.length=4) then (.zero,4) else (⟨g.entries,g.saves++[⟨n,g.entries.length⟩]⟩,0)
def bi (g:Lg) (n:Int):Lg:=bif decide (n=0) then ⟨[],[]⟩ else ⟨g.entries.take ((g.saves.getD (aE n 0 g.saves).toNat ⟨0,0⟩).at_).toNat,g.saves.take ((aE n 0 g.saves).toNat+1)⟩
def bU (g:Lg) (n:Int):Lg×List Tm×Int :=
 bif !n8 g then (.zero,[],2) else bif !decide (n=0) && decide (aE n 0 g.saves<0) then (.zero,[],10) else
 (bi g n,(bp (g.entries.drop (bi g n).entries.length)).map fun m=>⟨m,ay (bi g n).entries m⟩,0)
def oth (n:ByteArray) (e:En):Bool:=!aT e.name n
def iu (g:Lg) (n:ByteArray):Lg:=⟨g.entries.filter (oth n),g.saves.map fun s=>⟨s.label,((g.entries.take s.at_.toNat).filter (oth n)).length⟩⟩
def lv (g:Lg) (n:ByteArray):Lg×Bool:=bif !n8 g then (.zero,false) else bif decide ((iu g n).entries.length=g.entries.length) then (.zero,false) else (iu g n,true)
def iv (g:Lg):List Tm:=((bp g.entries).map fun m=>(⟨m,ay g.entries m⟩:Tm)).filter fun a=>!aF a.am
theorem jH {l:List ByteArray} (h:iG l):l.Nodup:=h.imp fun {a b} (hab:fD a b=true) (e:a=b)=>by rw [e,dt] at hab;cases hab
theorem pm {α:Type} [DecidableEq α] {l m:List α} (hn:l.Nodup) (hs:∀x∈l,x∈m):l.length≤m.length:=by
 induction l generalizing m with
 | nil=>exact Nat.zero_le _
 | cons x l ih =>
  rw [List.nodup_cons] at hn
  have hx:=hs x (by simp)
  have h1:=ih (m:=m.erase x) hn.2 fun y hy=>(List.mem_erase_of_ne (fun (e:y=x)=>hn.1 (e▸hy))).2 (hs y (by simp [hy]))
  have h2:=List.length_erase_of_mem hx
  have h3:=List.length_pos_of_mem hx
  rw [List.length_cons]
  omega
theorem uc {l m:List En} (h:∀e∈l,e∈m):(bp l).length≤(bp m).length :=
 pm (jH (fU l)) fun x hx=>by
  obtain ⟨e,he,hn⟩:=du.1 hx
  exact du.2 ⟨e,h e he,hn⟩
theorem Svs.mono {s:List Sv} {n m:Int} (h:Svs s n) (hm:n≤m):Svs s m:=⟨fun x hx=>⟨(h.lab x hx).1,(h.lab x hx).2.1,by have:=(h.lab x hx).2.2;omega⟩,h.ord,h.nd⟩
theorem Cq {g:Lg} (h:Ld g) {e:En} (hn:bE e.name.toList=true) (hb:e.before=ay g.entries e.name) (hg:cm e.before e.after=true) {ns:List ByteArray} (hns:ns.length≤8) (h1:∀x∈g.entries,x.name∈ns) (h2:e.name∈ns) :
  gS g e=(⟨g.entries++[e],g.saves⟩,0)∧Ld ⟨g.entries++[e],g.saves⟩:=by
 have hl:Ld ⟨g.entries++[e],g.saves⟩:=by
  refine ⟨h.slen,Ents.snoc.2 ⟨h.ents,hn,hb,hg⟩,?_,h.svs.mono (by show (g.entries.length:Int)≤((g.entries++[e]).length:Nat);rw [List.length_append];omega)⟩
  have:=pm (m:=ns) (jH (fU (g.entries++[e]))) fun x hx=>by
   obtain ⟨f,hf,hfx⟩:=du.1 hx
   rcases List.mem_append.1 hf with hf|hf
   ·exact hfx▸h1 f hf
   ·rw [List.mem_singleton] at hf
    subst hf
    exact hfx▸h2
  show (bp (g.entries++[e])).length≤8
  omega
 refine ⟨?_,hl⟩
 unfold gS
 rw [eS.2 h,eS.2 hl]
 rfl
theorem GL {g:Lg} {n:Int} (h:(iN g n).2=0):Ld g∧iN g n=(⟨g.entries,g.saves++[⟨n,g.entries.length⟩]⟩,0)∧Ld ⟨g.entries,g.saves++[⟨n,g.entries.length⟩]⟩:=by
 unfold iN at h ⊢
 cases hV:n8 g with
 | false=>rw [hV] at h;simp at h
 | true =>
  have hl:=eS.1 hV
  rw [hV] at h
  simp only [Bool.not_true,cond_false] at h ⊢
  cases hA:decide (1≤n) && decide (n≤99) with
  | false=>rw [hA] at h;simp at h
  | true =>
   rw [hA] at h
   simp only [Bool.not_true,cond_false] at h ⊢
   simp only [Bool.and_eq_true,decide_eq_true_eq] at hA
   by_cases hF:0≤aE n 0 g.saves
   ·rw [decide_eq_true hF] at h;simp at h
   ·rw [decide_eq_false hF] at h ⊢
    simp only [cond_false] at h ⊢
    by_cases h4:g.saves.length=4
    ·rw [decide_eq_true h4] at h;simp at h
    ·rw [decide_eq_false h4]
     refine ⟨hl,rfl,by have:=hl.slen;simp;omega,hl.ents,hl.nms,?_,?_,?_⟩
     ·intro x hx
      rcases List.mem_append.1 hx with hx|hx
      ·exact hl.svs.lab x hx
      ·rw [List.mem_singleton] at hx
       subst hx
       exact ⟨hA,by simp,by simp⟩
     ·rw [List.pairwise_append]
      refine ⟨hl.svs.ord,by simp,?_⟩
      intro x hx y hy
      rw [List.mem_singleton] at hy
      subst hy
      exact (hl.svs.lab x hx).2.2
     ·rw [List.map_append,List.nodup_append]
      refine ⟨hl.svs.nd,by simp,?_⟩
      intro u hu v hv
      obtain ⟨y,hy,rfl⟩:=List.mem_map.1 hu
      simp at hv
      subst hv
      exact (mT (k:=0)).1 (by omega) y hy
theorem GM {g:Lg} {n:Int} (h:(bU g n).2.2=0):Ld g∧Ld (bi g n)∧bU g n=(bi g n,(bp (g.entries.drop (bi g n).entries.length)).map fun m=>⟨m,ay (bi g n).entries m⟩,0)∧(bi g n).entries=g.entries.take (bi g n).entries.length:=by
 unfold bU at h ⊢
 cases hV:n8 g with
 | false=>rw [hV] at h;simp at h
 | true =>
  have hl:=eS.1 hV
  rw [hV] at h
  simp only [Bool.not_true,cond_false] at h ⊢
  cases hA : !decide (n=0) && decide (aE n 0 g.saves<0) with
  | true=>rw [hA] at h;simp at h
  | false =>
   refine ⟨hl,?_,rfl,?_⟩
   ·unfold bi
    by_cases h0:n=0
    ·rw [decide_eq_true h0,cond_true]
     exact ⟨by simp,fun k hk=>absurd hk (by simp),by simp [bp,dh],fun x hx=>absurd hx (by simp),by simp,by simp⟩
    ·rw [decide_eq_false h0] at hA ⊢
     simp only [Bool.not_false,Bool.true_and,decide_eq_false_iff_not] at hA
     obtain ⟨i,hi,e1,e2⟩:=gC (n:=n) (l:=g.saves) (k:=0) (by omega)
     have e3:(aE n 0 g.saves).toNat=i:=by rw [e1];omega
     rw [e3,cond_false]
     have e4:g.saves.getD i ⟨0,0⟩=g.saves[i]:=by simp [hi]
     rw [e4]
     have hsi:=hl.svs.lab g.saves[i] (List.getElem_mem hi)
     refine ⟨by have:=hl.slen;simp;omega,hl.ents.take _,Nat.le_trans (uc fun e he=>List.mem_of_mem_take he) hl.nms,?_,?_,?_⟩
     ·intro x hx
      have h1:=hl.svs.lab x (List.mem_of_mem_take hx)
      refine ⟨h1.1,h1.2.1,?_⟩
      obtain ⟨j,hj,e⟩:=List.mem_iff_getElem.1 hx
      rw [List.getElem_take] at e
      have hj2:j<g.saves.length:=by rw [List.length_take] at hj;omega
      have hji:j≤i:=by rw [List.length_take] at hj;omega
      have h2:g.saves[j].at_≤g.saves[i].at_:=by
       rcases Nat.lt_or_eq_of_le hji with hlt|rfl
       ·exact List.pairwise_iff_getElem.1 hl.svs.ord j i hj2 hi hlt
       ·exact Int.le_refl _
      rw [e] at h2
      show x.at_≤((g.entries.take g.saves[i].at_.toNat).length:Nat)
      rw [List.length_take]
      omega
     ·exact hl.svs.ord.sublist (List.take_sublist _ _)
     ·exact hl.svs.nd.sublist ((List.take_sublist _ _).map _)
   ·unfold bi
    cases decide (n=0) with
    | true=>simp
    | false =>
     simp only [cond_false]
     rw [List.length_take]
     rcases Nat.le_total (g.saves.getD (aE n 0 g.saves).toNat ⟨0,0⟩).at_.toNat g.entries.length with h|h
     ·rw [Nat.min_eq_left h]
     ·rw [Nat.min_eq_right h,List.take_of_length_le h,List.take_length]
theorem lw (n m:ByteArray):∀(l:List En) (a:Am),(m=n→a=⟨0,0⟩)→cz m a (l.filter (oth n))=if m=n then ⟨0,0⟩ else cz m a l
 | [],a,ha=>by
  by_cases h:m=n
  ·simp [cz,h,ha h]
  ·simp [cz,h]
 | e :: l,a,ha=>by
  rw [List.filter_cons]
  unfold oth
  cases he:aT e.name n with
  | true =>
   have hen:=aV.1 he
   simp only [Bool.not_true,Bool.false_eq_true,if_false]
   rw [show (List.filter (fun e=>!aT e.name n) l)=l.filter (oth n) from rfl,lw n m l a ha]
   by_cases h:m=n
   ·rw [if_pos h,if_pos h]
   ·rw [if_neg h,if_neg h]
    have:aT e.name m=false:=cc.2 fun h2=>h (h2.symm.trans hen)
    show cz m a l=cz m (bif aT e.name m then e.after else a) l
    rw [this]
    rfl
  | false =>
   have hen:=cc.1 he
   simp only [Bool.not_false,if_true]
   show cz m (bif aT e.name m then e.after else a) (l.filter (oth n))=_
   rw [lw n m l _ (fun h=>by
    have:aT e.name m=false:=cc.2 fun h2=>hen (h2.trans h)
    rw [this]
    exact ha h)]
   rfl
theorem jI (n m:ByteArray) (l:List En):ay (l.filter (oth n)) m=if m=n then ⟨0,0⟩ else ay l m:=lw n m l _ fun _=>rfl
theorem xF {l:List En} (h:Ents l) (n:ByteArray):Ents (l.filter (oth n)):=by
 refine n4 (P:=fun l=>Ents (l.filter (oth n))) (fun k hk=>absurd hk (by simp)) ?_ l h
 intro l e _ he ih
 rw [List.filter_append]
 cases ho:oth n e with
 | false =>
  have:[e].filter (oth n)=[]:=by simp [ho]
  rw [this,List.append_nil]
  exact ih
 | true =>
  have:[e].filter (oth n)=[e]:=by simp [ho]
  rw [this]
  have hne:e.name≠n:=by unfold oth at ho;rw [Bool.not_eq_true',cc] at ho;exact ho
  exact Ents.snoc.2 ⟨ih,he.nm,by rw [jI,if_neg hne];exact he.bef,he.gr⟩
theorem pn {α:Type} (p:α→Bool) (l:List α) {i j:Nat} (h:i≤j):((l.take i).filter p).length≤((l.take j).filter p).length:=by
 have:l.take i=(l.take j).take i:=by rw [List.take_take];congr 1;omega
 rw [this]
 exact ((List.take_sublist i (l.take j)).filter p).length_le
theorem GN {g:Lg} (h:Ld g) (n:ByteArray):Ld (iu g n):=by
 unfold iu
 refine ⟨by have:=h.slen;simpa using this,xF h.ents n,Nat.le_trans (uc fun e he=>(List.mem_filter.1 he).1) h.nms,?_,?_,?_⟩
 ·intro x hx
  obtain ⟨s,hs,rfl⟩:=List.mem_map.1 hx
  have h1:=h.svs.lab s hs
  refine ⟨h1.1,Int.natCast_nonneg _,?_⟩
  have:=((List.take_sublist s.at_.toNat g.entries).filter (oth n)).length_le
  show (((g.entries.take s.at_.toNat).filter (oth n)).length:Int)≤((g.entries.filter (oth n)).length:Nat)
  omega
 ·rw [List.pairwise_map]
  exact h.svs.ord.imp fun {a b} (hab:a.at_≤b.at_)=>by
   have:=pn (oth n) g.entries (i:=a.at_.toNat) (j:=b.at_.toNat) (by omega)
   show ((_:Nat):Int)≤((_:Nat):Int)
   omega
 ·rw [List.map_map]
  exact h.svs.nd
structure Rq where
 expr:Ex
 prio:Int
 limit:Int
def Rq.zero:Rq:=⟨Ex.zero,0,0⟩
structure Pc where
 proc:Pr
 cost:Int
 led:Lg
 waiting:Bool
 req:Rq
 since:Int
 gen:Int
def F7:Pc:=⟨⟨0,0,0⟩,0,Lg.zero,false,Rq.zero,0,0⟩
structure Cs where
 now:Int
 queues:List Qu
 procs:List Pc
def L4:Cs:=⟨0,[],[]⟩
structure Cm where
 kind:Int
 proc:Pr
 req:Rq
 name:ByteArray
 n:Int
def aU (t:List Qu) (n:ByteArray):Bool:=decide (0≤bw n 0 t)
def bd (t:List Qu) (n:ByteArray):Qu:=t.getD (iZ t n) vz
def br (t:List Qu) (p:Pr) (x:Ex):List Bool:=(cY x).map fun a=>aU t a.name && aY (bd t a.name).res (aj (bd t a.name).holds p) a.am
def gQ (t:List Qu):List Tm→Int
 | []=>0
 | a :: l=>bif !aU t a.name then 10 else bif !aC (bd t a.name).res a.am then 12 else gQ t l
def iH (t:List Qu) (x:Ex):Int:=bif !oO x then 1 else gQ t (cY x)
def qo (r:Rq):Bool:=oO r.expr && decide (0≤r.prio) && decide (r.prio≤7) && decide (0≤r.limit) && decide (r.limit≤1000)
def GO (x:Ex):Bool:=decide (x.k=0) && decide (x.atom=jX) && x.kids.isEmpty
def JB (r:Rq):Bool:=GO r.expr && decide (r.prio=0) && decide (r.limit=0)
theorem GP {x:Ex}:GO x=true↔x=Ex.zero:=by
 obtain ⟨k,a,l⟩:=x
 unfold GO Ex.zero
 simp only [Bool.and_eq_true,decide_eq_true_eq,List.isEmpty_iff]
 show (k=0∧a=jX)∧l=[]↔_
 constructor
 ·rintro ⟨⟨rfl,rfl⟩,rfl⟩;rfl
 ·intro h
  injection h with h1 h2 h3
  exact ⟨⟨h1,h2⟩,h3⟩
theorem GQ {r:Rq}:JB r=true↔r=Rq.zero:=by
 obtain ⟨x,p,l⟩:=r
 unfold JB Rq.zero
 simp only [Bool.and_eq_true,decide_eq_true_eq,GP]
 constructor
 ·rintro ⟨⟨rfl,rfl⟩,rfl⟩;rfl
 ·intro h
  injection h with h1 h2 h3
  exact ⟨⟨h1,h2⟩,h3⟩
def gD (t:List Qu) (p:Pr):List Tm:=(t.map fun q=>(⟨q.res.name,aj q.holds p⟩:Tm)).filter fun a=>!aF a.am
def cE (p:Pr):List Qu→List Tm
 | []=>[]
 | q :: l=>match ai q p with
  | some a=>⟨q.res.name,a⟩ :: cE p l
  | none=>cE p l
def dG (q:Qu) (x:Pc):List Tm→Bool
 | []=>decide (aj q.holds x.proc=ay x.led.entries q.res.name) && !(ai q x.proc).isSome
 | a :: l=>bif !aT a.name q.res.name || aY q.res (ay x.led.entries q.res.name) a.am then dG q x l else
  bif !(ai q x.proc).isSome then decide (aj q.holds x.proc=bG q.res (ay x.led.entries q.res.name) a.am) else
  bif q.waits.any (fun y=>decide (y.proc=x.proc) && !decide (y.prio=x.req.prio)) then false else
  decide (aj q.holds x.proc=ay x.led.entries q.res.name) && decide (ai q x.proc=some (bG q.res (ay x.led.entries q.res.name) a.am))
def qp (c:Cs) (x:Pc):Bool :=
 fo x.proc && decide (1≤x.cost) && decide (x.cost≤1000) && n8 x.led && decide (0≤x.gen) && decide (x.gen≤1073741824) &&
 (iv x.led).all (fun a=>aU c.queues a.name && aC (bd c.queues a.name).res a.am) &&
 bif !x.waiting then JB x.req && decide (x.since=0) && decide (iv x.led=gD c.queues x.proc) && decide (cE x.proc c.queues=[]) else
 qo x.req && decide (iH c.queues x.req.expr=0) && decide (0≤x.since) && decide (x.since≤c.now) && (decide (x.req.limit=0) || decide (c.now<x.since+x.req.limit)) &&
 !eV x.req.expr (br c.queues x.proc x.req.expr) && c.queues.all (fun q=>dG q x (cY x.req.expr))
def fm (p:Pr):Nat→List Pc→Int
 | _,[]=>-1
 | k,x :: l=>bif decide (x.proc=p) then (k:Int) else fm p (k+1) l
def xG (c:Cs):Option Pr→List Pc→Bool
 | _,[]=>true
 | o,x :: l=>qp c x && IC o x.proc && xG c (some x.proc) l
def gE (c:Cs):Bool:=decide (0≤c.now) && decide (c.now≤1073741824) && eO c.queues && decide (c.procs.length≤8) && (aD c.queues).all (fun p=>decide (0≤fm p 0 c.procs)) && xG c none c.procs
structure Wk where
 c:Cs
 ev:List Ev
def Wk.take (w:Wk) (t:List Qu) (ev:List Ev):Wk:=⟨{ w.c with queues:=t },w.ev++ev⟩
def Wk.note (w:Wk) (k:Int) (p:Pr):Wk:=⟨w.c,w.ev++[⟨k,p,⟨#[]⟩,⟨0,0⟩⟩]⟩
def Wk.pc (w:Wk) (i:Nat):Pc:=w.c.procs.getD i F7
def Wk.setP (w:Wk) (i:Nat) (x:Pc):Wk:=⟨{ w.c with procs:=w.c.procs.set i x },w.ev⟩
def lW (w:Wk) (p:Pr) (n:ByteArray):Wk:=w.take (cU w.c.queues p n).1 (cU w.c.queues p n).2.1
def eY (w:Wk) (p:Pr) (a:Tm):Wk:=w.take (cl w.c.queues p a).1 (cl w.c.queues p a).2.1
def iy (w:Wk) (p:Pr) (n:ByteArray):Wk:=bif (ai (bd w.c.queues n) p).isSome then lW w p n else w
def cO (w:Wk) (p:Pr) (n:ByteArray) (l:Am):Wk:=bif decide (aj (bd w.c.queues n).holds p=l) then w else eY w p ⟨n,l⟩
def bL (w:Wk) (x:Pc) (n:ByteArray):Wk:=cO (iy w x.proc n) x.proc n (ay x.led.entries n)
def eC (w:Wk) (i:Nat):Wk:=w.setP i { w.pc i with waiting:=false,req:=Rq.zero,since:=0 }
def bb (w:Wk) (i:Nat):Wk:=w.setP i { w.pc i with gen:=bj (w.pc i).gen }
def eG (x:Pc):List Tm→Wk→Wk
 | [],w=>w
 | a :: l,w=>eG x l (bL w x a.name)
def az (w:Wk) (i:Nat):Wk:=eC (eG (w.pc i) (cY (w.pc i).req.expr) w) i
def ec (t:List Qu) (x:Pc):Bool:=x.waiting && eV x.req.expr (br t x.proc x.req.expr)
def eP (t:List Qu):Nat→List Pc→Option Nat
 | _,[]=>none
 | k,x :: l=>bif ec t x then some k else eP t (k+1) l
def iz (x:Ex) (L:List Tm):Nat→List Bool→List Bool
 | 0,out=>out
 | i+1,out=>iz x L i (bif out.getD i false then out.set i (!zn (fe L (out.set i false)) x) else out)
def cP (x:Ex) (set:List Bool):List Bool :=
 bif eV x set then iz x (cY x) (cY x).length ((List.range (cY x).length).map fun i=>set.getD i false) else List.replicate (cY x).length false
def iX (w:Wk) (i:Nat) (p:Pr) (n:ByteArray):Wk :=
 bif decide (aj (bd w.c.queues n).holds p=ay (w.pc i).led.entries n) then w else
 w.setP i { w.pc i with led:=(gS (w.pc i).led ⟨n,ay (w.pc i).led.entries n,aj (bd w.c.queues n).holds p⟩).1 }
def di (x:Pc) (i:Nat):List Tm→List Bool→Wk→Wk
 | a :: l,b :: bs,w=>di x i l bs (bif b then iX w i x.proc a.name else bL w x a.name)
 | _,_,w=>w
def km (w:Wk) (i:Nat):Wk :=
 bb (eC (di (w.pc i) i (cY (w.pc i).req.expr) (cP (w.pc i).req.expr (br w.c.queues (w.pc i).proc (w.pc i).req.expr)) (w.note 2 (w.pc i).proc)) i) i
def aS:Nat→Wk→Wk
 | 0,w=>w
 | n+1,w=>match eP w.c.queues 0 w.c.procs with
  | none=>w
  | some i=>aS n (km w i)
def bP (w:Wk):Wk:=aS w.c.procs.length w
def iO (w:Wk) (i:Nat):Wk :=
 bP (Wk.note ⟨{ w.c with queues:=(bO w.c.queues (w.pc i).proc).1,procs:=w.c.procs.eraseIdx i },w.ev++(bO w.c.queues (w.pc i).proc).2⟩ 5 (w.pc i).proc)
def jg (now:Int):Nat→List Pc→Int×Int→Int×Int
 | _,[],b=>b
 | k,x :: l,b=>jg now (k+1) l (bif x.waiting && !decide (x.req.limit=0) && decide (x.since+x.req.limit≤now) && (decide (b.1<0) || decide (x.since+x.req.limit<b.2)) then ((k:Int),x.since+x.req.limit) else b)
def eZ (w:Wk):Int:=(jg w.c.now 0 w.c.procs (-1,0)).1
def n9 (x:Pc):List Pc→List Pc
 | []=>[x]
 | y :: l=>bif decide (0<dw y.proc x.proc) then x :: y :: l else y :: n9 x l
def mB (w:Wk) (p:Pr) (cost:Int):Wk×Int :=
 bif !(fo p && decide (1≤cost) && decide (cost≤1000)) then (w,1) else bif decide (0≤fm p 0 w.c.procs) then (w,11) else bif decide (w.c.procs.length=8) then (w,4) else
 (⟨{ w.c with procs:=n9 { F7 with proc:=p,cost:=cost } w.c.procs },w.ev⟩,0)
def dj (p:Pr) (prio:Int):List Tm→Wk→Wk
 | [],w=>w
 | a :: l,w=>dj p prio l (w.take (bI w.c.queues p a prio).1 (bI w.c.queues p a prio).2.1)
def cQ (w:Wk) (i:Nat) (r:Rq):Wk×Int :=
 bif (w.pc i).waiting then (w,14) else bif !qo r then (w,1) else bif !decide (iH w.c.queues r.expr=0) then (w,iH w.c.queues r.expr) else
 (bP (dj (w.pc i).proc r.prio (cY r.expr) (bb (w.setP i { w.pc i with waiting:=true,req:=r,since:=w.c.now }) i)),0)
def ed (w:Wk) (i:Nat) (n:ByteArray):Wk×Int :=
 bif (w.pc i).waiting then (w,14) else bif decide (ay (w.pc i).led.entries n=⟨0,0⟩) then (w,10) else
 let w1:=eY w (w.pc i).proc ⟨n,⟨0,0⟩⟩
 (bP (bb (w1.setP i { w1.pc i with led:=(lv (w1.pc i).led n).1 }) i),0)
def cf (p:Pr):List Tm→Wk→Wk
 | [],w=>w
 | a :: l,w=>cf p l (cO w p a.name a.am)
def dc (w:Wk) (i:Nat) (n:Int):Wk×Int :=
 bif !decide ((bU (w.pc i).led n).2.2=0) then (w,(bU (w.pc i).led n).2.2) else
 let w1:=bif (w.pc i).waiting then az w i else w
 let w2:=w1.setP i { w1.pc i with led:=(bU (w.pc i).led n).1 }
 (bP (bb (cf (w.pc i).proc (bU (w.pc i).led n).2.1 w2) i),0)
def iP:Nat→Wk→Wk
 | 0,w=>w
 | n+1,w=>bif decide (eZ w<0) then w else
  iP n (bP (bb (az (w.note 4 (w.pc (eZ w).toNat).proc) (eZ w).toNat) (eZ w).toNat))
def j0 (w:Wk) (n:Int):Wk×Int :=
 bif !(decide (0≤n) && decide (n≤1000)) then (w,1) else bif decide (1073741824-n<w.c.now) then (w,16) else (iP w.c.procs.length ⟨{ w.c with now:=w.c.now+n },w.ev⟩,0)
def D1 (w:Wk) (k:Cm):Wk×Int :=
 bif !(decide (1≤k.kind) && decide (k.kind≤9)) then (w,1) else bif decide (k.kind=1) then mB w k.proc k.n else bif decide (k.kind=9) then j0 w k.n else
 bif decide (fm k.proc 0 w.c.procs<0) then (w,10) else
 let i:=(fm k.proc 0 w.c.procs).toNat
 bif decide (k.kind=2) then cQ w i k.req else
 bif decide (k.kind=3) then (bif !(w.pc i).waiting then (w,14) else (bP (bb (az w i) i),0)) else
 bif decide (k.kind=4) then ed w i k.name else
 bif decide (k.kind=5) then (bif (w.pc i).waiting then (w,14) else bif !decide ((iN (w.pc i).led k.n).2=0) then (w,(iN (w.pc i).led k.n).2) else (bb (w.setP i { w.pc i with led:=(iN (w.pc i).led k.n).1 }) i,0)) else
 bif decide (k.kind=6) then dc w i k.n else
 bif decide (k.kind=8) && (w.pc i).waiting then (w,14) else (iO w i,0)
def Cr (c:Cs) (k:Cm):Cs×List Ev×Int :=
 bif !gE c then (L4,[],2) else bif !decide ((D1 ⟨c,[]⟩ k).2=0) then (L4,[],(D1 ⟨c,[]⟩ k).2) else ((D1 ⟨c,[]⟩ k).1.c,(D1 ⟨c,[]⟩ k).1.ev,0)
section
variable {w:World} {g:Nat} {t:TypeId}
theorem Blk.c1 {a0:Value} (h:Blk w g t #[a0]):w.cell? ⟨g,0,none⟩=some a0∧g<w.heap.size:=⟨h.cellx 0 rfl,h.lt⟩
theorem Blk.c2 {a0 a1:Value} (h:Blk w g t #[a0,a1]):w.cell? ⟨g,0,none⟩=some a0∧w.cell? ⟨g,1,none⟩=some a1∧g<w.heap.size:=⟨h.cellx 0 rfl,h.cellx 1 rfl,h.lt⟩
theorem Blk.c3 {a0 a1 a2:Value} (h:Blk w g t #[a0,a1,a2]):w.cell? ⟨g,0,none⟩=some a0∧w.cell? ⟨g,1,none⟩=some a1∧w.cell? ⟨g,2,none⟩=some a2∧g<w.heap.size:=⟨h.cellx 0 rfl,h.cellx 1 rfl,h.cellx 2 rfl,h.lt⟩
theorem Blk.c4 {a0 a1 a2 a3:Value} (h:Blk w g t #[a0,a1,a2,a3]):w.cell? ⟨g,0,none⟩=some a0∧w.cell? ⟨g,1,none⟩=some a1∧w.cell? ⟨g,2,none⟩=some a2∧w.cell? ⟨g,3,none⟩=some a3∧g<w.heap.size:=⟨h.cellx 0 rfl,h.cellx 1 rfl,h.cellx 2 rfl,h.cellx 3 rfl,h.lt⟩
theorem Blk.c5 {a0 a1 a2 a3 a4:Value} (h:Blk w g t #[a0,a1,a2,a3,a4]):w.cell? ⟨g,0,none⟩=some a0∧w.cell? ⟨g,1,none⟩=some a1∧w.cell? ⟨g,2,none⟩=some a2∧w.cell? ⟨g,3,none⟩=some a3∧w.cell? ⟨g,4,none⟩=some a4∧g<w.heap.size:=⟨h.cellx 0 rfl,h.cellx 1 rfl,h.cellx 2 rfl,h.cellx 3 rfl,h.cellx 4 rfl,h.lt⟩
theorem Blk.c7 {a0 a1 a2 a3 a4 a5 a6:Value} (h:Blk w g t #[a0,a1,a2,a3,a4,a5,a6]):w.cell? ⟨g,0,none⟩=some a0∧w.cell? ⟨g,1,none⟩=some a1∧w.cell? ⟨g,2,none⟩=some a2∧w.cell? ⟨g,3,none⟩=some a3∧w.cell? ⟨g,4,none⟩=some a4∧w.cell? ⟨g,5,none⟩=some a5∧w.cell? ⟨g,6,none⟩=some a6∧g<w.heap.size:=⟨h.cellx 0 rfl,h.cellx 1 rfl,h.cellx 2 rfl,h.cellx 3 rfl,h.cellx 4 rfl,h.cellx 5 rfl,h.cellx 6 rfl,h.lt⟩
theorem Blk.c8 {a0 a1 a2 a3 a4 a5 a6 a7:Value} (h:Blk w g t #[a0,a1,a2,a3,a4,a5,a6,a7]):w.cell? ⟨g,0,none⟩=some a0∧w.cell? ⟨g,1,none⟩=some a1∧w.cell? ⟨g,2,none⟩=some a2∧w.cell? ⟨g,3,none⟩=some a3∧w.cell? ⟨g,4,none⟩=some a4∧w.cell? ⟨g,5,none⟩=some a5∧w.cell? ⟨g,6,none⟩=some a6∧w.cell? ⟨g,7,none⟩=some a7∧g<w.heap.size:=⟨h.cellx 0 rfl,h.cellx 1 rfl,h.cellx 2 rfl,h.cellx 3 rfl,h.cellx 4 rfl,h.cellx 5 rfl,h.cellx 6 rfl,h.cellx 7 rfl,h.lt⟩
theorem Blk.c9 {a0 a1 a2 a3 a4 a5 a6 a7 a8:Value} (h:Blk w g t #[a0,a1,a2,a3,a4,a5,a6,a7,a8]):w.cell? ⟨g,0,none⟩=some a0∧w.cell? ⟨g,1,none⟩=some a1∧w.cell? ⟨g,2,none⟩=some a2∧w.cell? ⟨g,3,none⟩=some a3∧w.cell? ⟨g,4,none⟩=some a4∧w.cell? ⟨g,5,none⟩=some a5∧w.cell? ⟨g,6,none⟩=some a6∧w.cell? ⟨g,7,none⟩=some a7∧w.cell? ⟨g,8,none⟩=some a8∧g<w.heap.size:=⟨h.cellx 0 rfl,h.cellx 1 rfl,h.cellx 2 rfl,h.cellx 3 rfl,h.cellx 4 rfl,h.cellx 5 rfl,h.cellx 6 rfl,h.cellx 7 rfl,h.cellx 8 rfl,h.lt⟩
end
theorem mC {fn:Func} {p:Tmp} {ty:TypeId} (h:fn.results = #[.cell p ty]) (tmps:Array Value) (P:Program) (w:World):(results fn tmps).run P w=((asAddr (tmps.getD p undef)).run P w).andThen fun a w₁=>(loadVar ty a).run P w₁:=by
 simp only [results,h]
 simp [Sem.run_bind,Result.andThen]
theorem results_cell_tmp2 {fn:Func} {p u u':Tmp} {ty:TypeId} (h:fn.results = #[.cell p ty,.tmp u,.tmp u']) (tmps:Array Value) (P:Program) (w:World) :
  (results fn tmps).run P w=((asAddr (tmps.getD p undef)).run P w).andThen fun a w₁=>((loadVar ty a).run P w₁).andThen fun v w₂=>.ok (.tuple #[v,tmps.getD u undef,tmps.getD u' undef]) w₂:=by
 simp only [results,h]
 simp [Sem.run_bind,Result.andThen]
section
variable {P:Program} {fn:Func} {p u u':Tmp} {ty:TypeId} {R:Ending→World→Prop} {a:Act} {w:World} {v v':Value}
theorem xH (h:fn.results = #[.cell p ty]) (g:Nat) (t:TypeId) (cs:Array Value) (d:TypeDesc)
  (hp:a.tmps.getD p undef = .pointer (some ⟨g,0,none⟩)) (hg:Blk w g t cs) (hu:P.underlying ty=some d) (hd:(match d with | .struct _ | .array _ _=>true|_=>false)=true) (hi:(P.info? ty).map (·.size)=some cs.size)
  (hde:a.defers=[]) (hR:R (.returned (.agg cs)) w):bodyPost P fn R .ret a w:=by
 refine bodyPost_ret_by (v:=.agg cs) ?_ hde hR
 rw [mC h,hp]
 simp [asAddr,run_loadVar_row w g t ty cs (0,0) d hg hu hd hi]
end
end Go.Proofs.YtdaajdflefnjfaaGreat
