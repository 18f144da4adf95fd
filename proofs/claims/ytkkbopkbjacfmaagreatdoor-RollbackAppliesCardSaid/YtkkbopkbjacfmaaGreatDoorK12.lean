/- Part K12 of a proof of statements of chapter 15 (no condition). -/
import Derived.Test.YtkkbopkbjacfmaaGreatDoorK09
import Derived.Test.YtkkbopkbjacfmaaGreatDoorK10
import Derived.Test.YtkkbopkbjacfmaaGreatDoorK08
set_option linter.unusedVariables false
set_option linter.unusedSimpArgs false
set_option maxRecDepth 100000
set_option maxHeartbeats 64000000
namespace Go.Proofs.YtkkbopkbjacfmaaGreatDoor
open Go.RowKit Go.Proofs.Tryz
theorem wN {q:Qu} (h:ai q=true):fq q:=by
 have h1:eD q=true:=by
  unfold ai at h;simp only [qBa] at h;exact h.1
 have h2:=zL h1;unfold eD Fg Fh at h1;simp only [qBa,decide_eq_true_eq] at h1;exact ⟨h2,h1.1.1.1.2.1,by have:=h1.1.1.2.1.2;omega⟩
def Ka (p:Option ByteArray) (n:ByteArray):Bool:=match p with|none=>true|some m=>Op.bytesLess m.toList n.toList
def jz:Option ByteArray->List Qu->Bool
 | _,[]=>true
 | p,q :: l=>ai q && Ka p q.res.name && jz (some q.res.name) l
theorem ct (p:Option ByteArray) (q:Qu) (l:List Qu):jz p (q :: l)=(ai q && Ka p q.res.name && jz (some q.res.name) l):=rfl
def cM (l:List Qu):Bool:=decide (l.length<=8) && jz none l
def um (l:List Qu) (k:Nat):Option ByteArray:=if k=0 then none else (l[k-1]?).map (·.res.name)
theorem uo (l:List Qu):um l 0=none:=rfl
theorem nX {l:List Qu} {k:Nat} {x:Qu} (h:k<l.length) (hx:l[k]=x):um l (k+1)=some x.res.name:=by
 unfold um;rw [if_neg (by omega),Nat.add_sub_cancel,qGg h,hx];rfl
theorem xo {l:List Qu} {k:Nat} {x:Qu} (h0:0<k) (h:k-1<l.length) (hx:l[k-1]=x):um l k=some x.res.name:=by
 unfold um;rw [if_neg (by omega),qGg h,hx];rfl
theorem uq:∀(l:List Qu) (p:Option ByteArray),jz p l=true->∀q∈l,fq q
 | [],_,_,q,hq=>absurd hq (by simp)
 | x :: l,p,h,q,hq=>by
  rw [ct] at h;simp only [qBa] at h;rcases List.mem_cons.1 hq with rfl|hq
  ·exact wN h.1.1
  ·exact uq l _ h.2 q hq
def fN:List Tm->List Bool->Tm->Bool
 | [],_,_=>false
 | b :: L,set,a=>bif decide (b=a) then set.headD false else fN L set.tail a
theorem uw (b:Tm) (L:List Tm) (set:List Bool) (a:Tm):fN (b :: L) set a=bif decide (b=a) then set.headD false else fN L set.tail a:=rfl
mutual
def Cu (h:Tm->Bool):Ex->Bool
 | .mk k a l=>bif l.isEmpty then h a else decide (k<=(M2 h l:Int))
def M2 (h:Tm->Bool):List Ex->Nat
 | []=>0
 | x :: l=>(bif Cu h x then 1 else 0)+M2 h l
end
theorem M3 (h:Tm->Bool) (k:Int) (a:Tm) (l:List Ex):Cu h (.mk k a l)=bif l.isEmpty then h a else decide (k<=(M2 h l:Int)):=rfl
theorem Hi (h:Tm->Bool) (x:Ex) (l:List Ex):M2 h (x :: l)=(bif Cu h x then 1 else 0)+M2 h l:=rfl
theorem Kt:∀(x:Ex) (acc:List Tm),zW x=true->0<(ge x acc).length:=by
 refine Ex.ind (fun k a l ih=>?_);intro acc h;rw [mK];rw [yx] at h;cases l with
 | nil =>
  unfold iE;cases hh:lz a acc with
  | true =>
   have:=(oT a acc).1 hh;exact List.length_pos_of_mem this
  | false=>simp
 | cons y m =>
  rw [oU] at h;simp at h;have h1:=ih y (by simp) acc h.2.1;obtain ⟨t,ht⟩:=qI m (ge y acc);show 0<(ia m (ge y acc)).length;rw [ht,List.length_append];omega
theorem ux {x:Ex} (h:nZ x=true):zW x=true/\cR x=ge x []/\(cR x).length<=8/\0<(cR x).length/\sC (cR x):=by
 have h2:cR x=ge x []:=by unfold cR;rw [h];rfl
 unfold nZ at h;simp at h;rw [h2];exact ⟨h.2.1,rfl,h.2.2.1,Kt x [] h.2.1,h.2.2⟩
theorem yz {x:Ex} (h:nZ x=false):cR x=[]:=by unfold cR;rw [h];rfl
def fu (x:Ex) (set:List Bool):Bool:=nZ x && Cu (fN (cR x) set) x
theorem mh {l:List Ho} (ha:(cL l).Pairwise fS) {x:Ho} (hx:x∈l):af l x.proc=x.am:=by
 induction l with
 | nil=>cases hx
 | cons y l ih =>
  have ha':(y.proc :: cL l).Pairwise fS:=ha;obtain ⟨h1,h2⟩:=List.pairwise_cons.1 ha';show (bif decide (y.proc=x.proc) then y.am else af l x.proc)=x.am;rcases List.mem_cons.1 hx with rfl|hx
  ·rw [qDt rfl];rfl
  ·have h3:=h1 x.proc (List.mem_map.2 ⟨x,hx,rfl⟩);rw [qDf (fun (e:y.proc=x.proc)=>bz _ (e▸h3)),qCf];exact ih h2 hx
theorem dH {q:Qu} (h:Sd q) (r:Pr):r∈dW q↔dY q r=true:=by
 unfold dW dY;rw [bf,List.mem_append,Bool.or_eq_true,Bool.not_eq_true',bg];constructor
 ·rintro (h1|h1)
  ·obtain ⟨x,hx,rfl⟩:=List.mem_map.1 h1
   right
   rw [mh h.hv.asc hx];exact bg.1 (eF (h.hv.fit x hx).2)
  ·left
   have h2:r∈bR (q.convs++q.waits):=h1;obtain ⟨x,hx,rfl⟩:=List.mem_map.1 h2;unfold ah;rw [uW h.nd hx];rfl
 ·rintro (h1|h1)
  ·right
   obtain ⟨a,ha⟩:=Option.isSome_iff_exists.1 h1;obtain ⟨x,hx,hp,_⟩:=FK ha;show r∈bR (q.convs++q.waits);exact List.mem_map.2 ⟨x,hx,hp⟩
  ·left
   obtain ⟨x,hx,hp,_⟩:=jG h1;exact List.mem_map.2 ⟨x,hx,hp⟩
theorem et:∀{l:List Qu} {r:Pr},r∈iD l↔∃q∈l,r∈dW q
 | [],r=>by simp [iD]
 | q :: l,r=>by
  show r∈dW q++iD l↔_;rw [List.mem_append,et];simp
theorem Eff.has {q q':Qu} {p:Pr} (h:Eff q q' p) (hq:dY q' p=true):dY q p=true:=by
 unfold dY at *
 rcases h with ⟨h1,h2⟩|⟨a,h1,_,_⟩
 ·rw [h1,h2] at hq;exact hq
 ·rw [h1];rfl
def eV (t:List Qu):Bool:=cM t && decide ((aD t).length<=8)
def eZ (t:List Qu):List ByteArray:=t.map (·.res.name)
theorem uY:∀{l:List Qu} {p:Option ByteArray},jz p l=true->∀q∈l,ai q=true
 | [],_,_,q,hq=>absurd hq (by simp)
 | x :: l,p,h,q,hq=>by
  rw [ct] at h;simp only [qBa] at h;rcases List.mem_cons.1 hq with rfl|hq
  ·exact h.1.1
  ·exact uY h.2 q hq
theorem As {q':Qu} (hs:ai q'=true):∀{l:List Qu} {p:Option ByteArray} {i:Nat} (h:i<l.length),jz p l=true->q'.res.name=l[i].res.name->jz p (l.set i q')=true
 | [],_,_,h,_,_=>absurd h (by simp)
 | x :: l,p,0,h,hv,hn=>by
  rw [ct] at hv;simp only [qBa] at hv;have hn':q'.res.name=x.res.name:=hn;rw [List.set_cons_zero,ct,hn'];simp only [qBa];exact ⟨⟨hs,hv.1.2⟩,hv.2⟩
 | x :: l,p,i+1,h,hv,hn=>by
  rw [ct] at hv;simp only [qBa] at hv;rw [List.set_cons_succ,ct];simp only [qBa];exact ⟨hv.1,As hs (by simpa using h) hv.2 (by simpa using hn)⟩
def fT (a b:ByteArray):Bool:=Op.bytesLess a.toList b.toList
theorem dS {a b c:ByteArray} (h1:fT a b=true) (h2:fT b c=true):fT a c=true:=by
 unfold fT at *
 rw [bytesLess_eq,decide_eq_true_eq] at *
 exact List.lt_trans h1 h2
theorem dh (a:ByteArray):fT a a=false:=by
 unfold fT;rw [bytesLess_eq,decide_eq_false_iff_not];exact List.lt_irrefl _
theorem pg:∀{l:List Qu} {p:Option ByteArray},jz p l=true->(eZ l).Pairwise (fun a b=>fT a b=true)/\∀m,p=some m->∀n∈eZ l,fT m n=true
 | [],_,_=>⟨by simp [eZ],fun _ _ n hn=>absurd hn (by simp [eZ])⟩
 | x :: l,p,h=>by
  rw [ct] at h;simp only [qBa] at h;obtain ⟨h1,h2⟩:=pg h.2;refine ⟨List.pairwise_cons.2 ⟨fun n hn=>h2 _ rfl n hn,h1⟩,?_⟩;intro m hm n hn;subst hm;have h3:fT m x.res.name=true:=h.1.2;rcases List.mem_cons.1 (show n∈x.res.name :: eZ l from hn) with rfl|hn
  ·exact h3
  ·exact dS h3 (h2 _ rfl n hn)
theorem cm {t:List Qu} (h:eV t=true):t.length<=8/\jz none t=true/\(aD t).length<=8:=by
 unfold eV cM at h;simp only [qBa,decide_eq_true_eq] at h;exact ⟨h.1.1,h.1.2,h.2⟩
theorem At {t:List Qu} (h:eV t=true):(eZ t).Nodup:=by
 have:=(pg (cm h).2.1).1;exact this.imp fun {a b} hab e=>by rw [e,dh] at hab;cases hab
theorem dc {t:List Qu} (h:eV t=true) {q:Qu} (hq:q∈t):ai q=true:=uY (cm h).2.1 q hq
theorem uZ {a b:ByteArray}:(a.toList == b.toList)=true↔a=b:=by
 rw [beq_iff_eq];exact ⟨toList_inj,fun h=>by rw [h]⟩
theorem Au:∀{t:List Qu} {i k:Nat} (h:i<t.length),(eZ t).Nodup->bV t[i].res.name k t=((k+i:Nat):Int)
 | [],_,_,h,_=>absurd h (by simp)
 | q :: t,0,k,h,_=>by
  rw [fI];have:(q.res.name.toList == ((q :: t)[0]).res.name.toList)=true:=by simp
  rw [this];simp
 | q :: t,i+1,k,h,hn=>by
  have hn':(q.res.name :: eZ t).Nodup:=hn;rw [List.nodup_cons] at hn';rw [fI];have hi:i<t.length:=by simpa using h
  have hne:(q.res.name.toList == ((q :: t)[i+1]).res.name.toList)=false:=by
   cases hc:(q.res.name.toList == ((q :: t)[i+1]).res.name.toList) with
   | false=>rfl
   | true =>
    have e:=uZ.1 hc;exact absurd (e▸List.mem_map.2 ⟨t[i],List.getElem_mem hi,rfl⟩) hn'.1
  rw [hne,qCf];have:=Au (k:=k+1) hi hn'.2;exact RL
theorem oa:∀{t:List Qu} {n:ByteArray} {k:Nat},0<=bV n k t->∃i,∃h:i<t.length,bV n k t=((k+i:Nat):Int)/\t[i].res.name=n
 | [],n,k,h=>by simp [bV] at h
 | q :: t,n,k,h=>by
  rw [fI] at h ⊢;cases hc:(q.res.name.toList == n.toList) with
  | true=>exact ⟨0,by simp,by simp,uZ.1 hc⟩
  | false =>
   rw [hc,qCf] at h;rw [qCf];obtain ⟨i,hi,h1,h2⟩:=oa h;exact RO
structure TOut (t t':List Qu) (i:Nat) (p:Pr):Prop where
 lt:i<t.length
 set:∃q,t'=t.set i q/\Out t[i] q p
theorem TOut.at {t t':List Qu} {i:Nat} {p:Pr} (h:TOut t t' i p):∃q,t'[i]? = some q/\Out (t[i]'h.lt) q p:=by
 obtain ⟨q,rfl,ho⟩:=h.set;exact ⟨q,by rw [List.getElem?_set_self h.lt],ho⟩
theorem TOut.other {t t':List Qu} {i:Nat} {p:Pr} (h:TOut t t' i p) {j:Nat} (hj:j≠i):t'[j]? = t[j]?:=by
 obtain ⟨q,rfl,_⟩:=h.set;rw [List.getElem?_set_ne (Ne.symm hj)]
theorem TOut.names {t t':List Qu} {i:Nat} {p:Pr} (h:TOut t t' i p):eZ t'=eZ t:=by
 obtain ⟨q,rfl,ho⟩:=h.set;unfold eZ;rw [List.map_set];have e:q.res.name=(t[i]'h.lt).res.name:=by rw [ho.res]
 rw [e];apply List.ext_getElem
 ·simp
 ·intro j h1 h2;rw [List.getElem_set];split
  ·next hij=>subst hij;simp
  ·rfl
theorem xE {t t':List Qu} {i:Nat} {p:Pr} (hv:eV t=true) (h:TOut t t' i p):∀r∈aD t',r=p\/r∈aD t:=by
 obtain ⟨q,rfl,ho⟩:=h.set;intro r hr;unfold aD at hr ⊢;rw [bf,et] at hr ⊢;obtain ⟨x,hx,hrx⟩:=hr;rcases List.mem_or_eq_of_mem_set hx with hx|rfl
 ·exact .inr ⟨x,hx,hrx⟩
 ·by_cases hrp:r=p
  ·exact .inl hrp
  ·right
   have h1:=(dH (aG ho.ok) r).1 hrx;have hm:t[i]'h.lt∈t:=List.getElem_mem h.lt;exact ⟨_,hm,(dH (aG (dc hv hm)) r).2 ((ho.eff r hrp).has h1)⟩
theorem fa (t:List Qu):(aD t).Nodup:=by
 unfold List.Nodup aD;exact (iq (iD t)).imp fun {a b} (hab:fS a b) (e:a=b)=>by rw [e] at hab;exact bz b hab
theorem TOut.valid {t t':List Qu} {i:Nat} {p:Pr} (hv:eV t=true) (h:TOut t t' i p) (hp:(aD t).length<=7\/p∈aD t\/p ∉ aD t'):eV t'=true:=by
 have hsub:=xE hv h;obtain ⟨q,rfl,ho⟩:=h.set;obtain ⟨h1,h2,h3⟩:=cm hv;unfold eV cM;simp only [qBa,decide_eq_true_eq];refine ⟨⟨by simpa using h1,As ho.ok h.lt h2 (by rw [ho.res])⟩,?_⟩;rcases hp with hp|hp|hp
 ·have h4:=el (m:=p :: aD t) (fa (t.set i q)) fun r hr=>by
   rcases hsub r hr with e|e
   ·simp [e]
   ·simp [e]
  rw [List.length_cons] at h4;omega
 ·have h4:=el (m:=aD t) (fa (t.set i q)) fun r hr=>by
   rcases hsub r hr with e|e
   ·rw [e];exact hp
   ·exact e
  omega
 ·have h4:=el (m:=aD t) (fa (t.set i q)) fun r hr=>by
   rcases hsub r hr with e|e
   ·exact absurd (e▸hr) hp
   ·exact e
  omega
theorem ob {r:Rs} {a:Am} (h:aH r a=true):cl r ⟨0,0⟩ a=a:=by
 have hs:aW r=true:=by unfold aH at h;rw [qBa] at h;exact h.1
 have hp:=df h;have hz:=eF h;have p0:bI r ⟨0,0⟩=true:=by unfold bI aJ;rw [hs];rfl
 have z0:aJ ⟨0,0⟩=true:=rfl;have c1:bc r ⟨0,0⟩ a=false:=by unfold bc;rw [p0,hp,hz,z0];simp
 have c2:bc r a ⟨0,0⟩=true:=by unfold bc;rw [p0,hp,z0];simp
 unfold cl;rw [p0,hp,c1,c2];rfl
theorem yT {q:Qu} {p:Pr} {a:Am} {prio:Int} (h:(bO q p a prio).2.2=0):ai q=true/\gm p=true/\(0<=prio/\prio<=7)/\aH q.res a=true/\ah q p=none/\
    ((bc q.res (af q.holds p) a=true/\bO q p a prio=jJ (q,[]))\/
     (bc q.res (af q.holds p) a=false/\af q.holds p≠⟨0,0⟩/\bO q p a prio=jJ (eN { q with convs:=q.convs++[⟨p,cl q.res (af q.holds p) a,0,0⟩] }))\/
     (bc q.res (af q.holds p) a=false/\af q.holds p=⟨0,0⟩/\q.holds.length+q.waits.length<8/\uc ⟨p,a,prio,0⟩=true/\bO q p a prio=jJ (eN { q with waits:=jH q.waits ⟨p,a,prio,0⟩ }))):=by
  unfold bO at h ⊢;cases hS:ai q with
  | false=>rw [hS] at h;simp [bY] at h
  | true =>
    have hd:=aG hS;rw [hS] at h;simp only [Bool.not_true,qCf] at h ⊢;cases hA:gm p && decide (0<=prio) && decide (prio<=7) with
    | false=>rw [hA] at h;simp [bY] at h
    | true =>
      rw [hA] at h;simp only [Bool.not_true,qCf] at h ⊢;simp only [qBa,decide_eq_true_eq] at hA;cases hF:aH q.res a with
      | false=>rw [hF] at h;simp [bY] at h
      | true =>
        rw [hF] at h;simp only [Bool.not_true,qCf] at h ⊢;cases hW:ah q p with
        | some b=>rw [hW] at h;simp [bY] at h
        | none =>
          rw [hW] at h;simp only [Option.isSome_none,qCf] at h ⊢;refine ⟨trivial,hA.1.1,⟨hA.1.2,hA.2⟩,trivial,trivial,?_⟩;cases hC:bc q.res (af q.holds p) a with
          | true=>exact .inl ⟨rfl,rfl⟩
          | false =>
            rw [hC] at h;simp only [qCf] at h ⊢
            right
            cases hZ:aJ (af q.holds p) with
            | false=>exact .inl ⟨trivial,bg.1 hZ,rfl⟩
            | true =>
              rw [hZ] at h;simp only [Bool.not_true,qCf] at h ⊢
              right
              by_cases hl:8<=q.holds.length+q.waits.length
              · rw [qDt hl] at h;simp [bY] at h
              · rw [qDf hl] at h ⊢
                simp only [qCf] at h ⊢;obtain ⟨e1,hv⟩:=tT hd hW hF hA.1.1 ⟨hA.1.2,hA.2⟩ (by omega);rw [e1];simp only [decide_true,Bool.not_true,qCf];exact ⟨by trivial,of_decide_eq_true hZ,by omega,hv,by trivial⟩
theorem Av {q:Qu} {p:Pr} {a:Am} {prio:Int} (hS:ai q=true) (hp:gm p=true) (hr:0<=prio/\prio<=7) (hF:aH q.res a=true) (hW:ah q p=none) (hl:af q.holds p≠⟨0,0⟩\/q.holds.length+q.waits.length<8):(bO q p a prio).2.2=0:=by
 have hd:=aG hS;unfold bO;rw [hS,hp,hF,hW,qDt hr.1,qDt hr.2];simp only [Bool.not_true,Bool.and_self,qCf,Option.isSome_none];cases hC:bc q.res (af q.holds p) a with
 | true=>rfl
 | false =>
  simp only [qCf];cases hZ:aJ (af q.holds p) with
  | false=>rfl
  | true =>
   have h0:af q.holds p=⟨0,0⟩:=of_decide_eq_true hZ;have hl':q.holds.length+q.waits.length<8:=by
    rcases hl with hl|hl
    ·exact absurd h0 hl
    ·exact hl
   obtain ⟨e1,_⟩:=tT hd hW hF hp hr hl';rw [qDf (show ¬8<=q.holds.length+q.waits.length by omega),e1];rfl
structure ClOut (q q':Qu) (p:Pr) (a:Am) (prio:Int):Prop where
 out:Out q q' p
 own:(bc q.res (af q.holds p) a=true/\q'=q)\/(bc q.res (af q.holds p) a=false/\((af q'.holds p=af q.holds p/\ah q' p=some (cl q.res (af q.holds p) a))\/(af q'.holds p=cl q.res (af q.holds p) a/\ah q' p=none)))
 pr:∀x∈q'.waits,x.proc=p->x.prio=prio
theorem CM {q:Qu} {p:Pr} {a:Am} {prio:Int} (h:(bO q p a prio).2.2=0):ClOut q (bO q p a prio).1 p a prio:=by
 have ho:=CK h;obtain ⟨hS,hvp,hr,hF,hW,hc⟩:=yT h;have hd:=aG hS;have hno:=ez.1 hW;rcases hc with ⟨hC,e⟩|⟨hC,h0,e⟩|⟨hC,h0,hl,hv,e⟩
 ·rw [e] at ho ⊢;exact ⟨ho,.inl ⟨hC,rfl⟩,fun x hx hp=>absurd hp (hno x (by have h:x∈q.waits:=hx;simp [h]))⟩
 ·rw [e] at ho ⊢;have hs:=hd.cons h0 hW hF hC;refine ⟨ho,.inr ⟨hC,?_⟩,fun x hx hp=>?_⟩
  ·have hw:ah { q with convs:=q.convs++[⟨p,cl q.res (af q.holds p) a,0,0⟩] } p=some (cl q.res (af q.holds p) a):=by
    unfold ah;have hm:(⟨p,cl q.res (af q.holds p) a,0,0⟩:Wt)∈q.convs++[⟨p,cl q.res (af q.holds p) a,0,0⟩]++q.waits:=by simp
    exact uW (x:=⟨p,cl q.res (af q.holds p) a,0,0⟩) hs.nd hm
   rcases tS hs p with ⟨h1,h2⟩|⟨b,h1,h2,h3⟩
   ·exact .inl ⟨h1,h2.trans hw⟩
   ·rw [hw] at h1;injection h1 with h1;exact .inr ⟨h2.trans h1.symm,h3⟩
  ·have h1:=qR hx;exact absurd hp (hno x (by have h:x∈q.waits:=h1;simp [h]))
 ·rw [e] at ho ⊢;have hs:=hd.ins (w:=⟨p,a,prio,0⟩) h0 hW hF hv hl;have hJ:cl q.res (af q.holds p) a=a:=by rw [h0];exact ob hF
  refine ⟨ho,.inr ⟨hC,?_⟩,fun x hx hp=>?_⟩
  ·rw [hJ];have hw:ah { q with waits:=jH q.waits ⟨p,a,prio,0⟩ } p=some a:=by
    unfold ah;have hm:(⟨p,a,prio,0⟩:Wt)∈q.convs++jH q.waits ⟨p,a,prio,0⟩:=by
     rw [List.mem_append]
     right
     unfold jH;simp
    exact uW (x:=⟨p,a,prio,0⟩) hs.nd hm
   rcases tS hs p with ⟨h1,h2⟩|⟨b,h1,h2,h3⟩
   ·exact .inl ⟨h1,h2.trans hw⟩
   ·rw [hw] at h1;injection h1 with h1;exact .inr ⟨h2.trans h1.symm,h3⟩
  ·rcases uU (qR hx) with rfl|h1|⟨y,h1,rfl,_,_⟩
   ·rfl
   ·exact absurd hp (hno x (by simp [h1]))
   ·exact absurd (show y.proc=p from hp) (hno y (by simp [h1]))
theorem nJ {q:Qu} {p:Pr} (h:(bd q p).2.2=0):ai q=true/\(ah q p).isSome=true/\bd q p=jJ (eN { q with convs:=bX q.convs p,waits:=bX q.waits p }):=by
 unfold bd at h ⊢;cases hS:ai q with
 | false=>rw [hS] at h;simp [bY] at h
 | true =>
  rw [hS] at h;simp only [Bool.not_true,qCf] at h ⊢;cases hW:(ah q p).isSome with
  | false=>rw [hW] at h;simp [bY] at h
  | true=>exact ⟨by trivial,by trivial,by trivial⟩
theorem km {q:Qu} {p:Pr} (hS:ai q=true) (hW:(ah q p).isSome=true):(bd q p).2.2=0:=by unfold bd;rw [hS,hW];rfl
theorem kn {r:Qu} {p:Pr} (hs:Sd r) (hw:ah r p=none):af (eN r).1.holds p=af r.holds p/\ah (eN r).1 p=none:=by
 rcases tS hs p with ⟨h1,h2⟩|⟨b,h1,_⟩
 ·exact ⟨h1,h2.trans hw⟩
 ·rw [hw] at h1;cases h1
theorem sL {q:Qu} {p:Pr} (h:(bd q p).2.2=0):Out q (bd q p).1 p/\af (bd q p).1.holds p=af q.holds p/\ah (bd q p).1 p=none:=by
 have ho:=Aq h;obtain ⟨hS,_,e⟩:=nJ h;have hd:=aG hS;rw [e] at ho ⊢;exact ⟨ho,kn (hd.drop p) (by rw [kh,if_pos rfl])⟩
theorem ko {q:Qu} {p:Pr} {a:Am} (h:(aY q p a).2.2=0):ai q=true/\af q.holds p≠⟨0,0⟩/\ah q p=none/\bc q.res (af q.holds p) a=true/\((af q.holds p=a/\aY q p a=jJ (q,[]))\/(af q.holds p≠a/\aY q p a=jJ (eN { q with holds:=cE q.holds p a }))):=by
 unfold aY at h ⊢;cases hS:ai q with
 | false=>rw [hS] at h;simp [bY] at h
 | true =>
  rw [hS] at h;simp only [Bool.not_true,qCf] at h ⊢;cases hZ:aJ (af q.holds p) with
  | true=>rw [hZ] at h;simp [bY] at h
  | false =>
   rw [hZ] at h;simp only [qCf] at h ⊢;cases hW:ah q p with
   | some b=>rw [hW] at h;simp [bY] at h
   | none =>
    rw [hW] at h;simp only [Option.isSome_none,qCf] at h ⊢;cases hC:bc q.res (af q.holds p) a with
    | false=>rw [hC] at h;simp [bY] at h
    | true =>
     simp only [Bool.not_true,qCf];refine ⟨trivial,bg.1 hZ,trivial,trivial,?_⟩;by_cases hE:af q.holds p=a
     ·rw [qDt hE];exact .inl ⟨hE,rfl⟩
     ·rw [qDf hE];exact .inr ⟨hE,rfl⟩
theorem sM {q:Qu} {p:Pr} {a:Am} (hS:ai q=true) (h0:af q.holds p≠⟨0,0⟩) (hW:ah q p=none) (hC:bc q.res (af q.holds p) a=true):(aY q p a).2.2=0:=by
 unfold aY;rw [hS,bg.2 h0,hW,hC];simp only [Bool.not_true,qCf,Option.isSome_none];cases decide (af q.holds p=a) <;> rfl
theorem kq {q:Qu} {p:Pr} {a:Am} (h:(aY q p a).2.2=0):Out q (aY q p a).1 p/\af (aY q p a).1.holds p=a/\ah (aY q p a).1 p=none:=by
 have ho:=CL h;obtain ⟨hS,h0,hW,hC,hc⟩:=ko h;have hd:=aG hS;rcases hc with ⟨hE,e⟩|⟨_,e⟩
 ·rw [e] at ho ⊢;exact ⟨ho,hE,hW⟩
 ·rw [e] at ho ⊢;have h1:=kn (hd.lower hW h0 hC) (p:=p) hW;refine ⟨ho,h1.1.trans ?_,h1.2⟩;show af (cE q.holds p a) p=a;rw [fF,if_pos rfl]
theorem wR {q:Qu} {p:Pr} (h:(br q p).2.2=0):ai q=true/\dY q p=true/\br q p=jJ (eN { q with holds:=cE q.holds p ⟨0,0⟩,convs:=bX q.convs p,waits:=bX q.waits p }):=by
 unfold br at h ⊢;cases hS:ai q with
 | false=>rw [hS] at h;simp [bY] at h
 | true =>
  rw [hS] at h;simp only [Bool.not_true,qCf] at h ⊢;cases hH:dY q p with
  | false=>rw [hH] at h;simp [bY] at h
  | true=>exact ⟨by trivial,by trivial,by trivial⟩
theorem yU {q:Qu} {p:Pr} (hS:ai q=true) (hH:dY q p=true):(br q p).2.2=0:=by unfold br;rw [hS,hH];rfl
theorem Aw {q:Qu} {p:Pr} (h:(br q p).2.2=0):Out q (br q p).1 p/\af (br q p).1.holds p=⟨0,0⟩/\ah (br q p).1 p=none:=by
 have ho:=Ar h;obtain ⟨hS,_,e⟩:=wR h;have hd:=aG hS;rw [e] at ho ⊢;have hw:ah { q with holds:=cE q.holds p ⟨0,0⟩,convs:=bX q.convs p,waits:=bX q.waits p } p=none:=by
  have:=kh q p p;rw [if_pos rfl] at this;exact this
 have h1:=kn (hd.gone p) hw;refine ⟨ho,h1.1.trans ?_,h1.2⟩;show af (cE q.holds p ⟨0,0⟩) p=_;rw [fF,if_pos rfl]
structure Ev where
 kind:Int
 proc:Pr
 name:ByteArray
 am:Am
deriving DecidableEq
def bo (n:ByteArray) (l:List Ho):List Ev:=l.map fun h=>⟨1,h.proc,n,h.am⟩
def fY (e:Int):List Qu×List Ev×Int:=([],[],e)
def jo (t:List Qu) (n:ByteArray):Nat:=(bV n 0 t).toNat
def b9 (t:List Qu) (p:Pr) (a:Tm) (prio:Int):List Qu×List Ev×Int :=
 bif !eV t then fY 2 else bif decide (bV a.name 0 t<0) then fY 10 else
 bif decide ((aD t).length=8) && !decide (p∈aD t) then fY 4 else
 bif !decide ((bO (t.getD (jo t a.name) yS) p a.am prio).2.2=0) then fY (bO (t.getD (jo t a.name) yS) p a.am prio).2.2 else
 (t.set (jo t a.name) (bO (t.getD (jo t a.name) yS) p a.am prio).1,bo a.name (bO (t.getD (jo t a.name) yS) p a.am prio).2.1,0)
def dq (t:List Qu) (p:Pr) (n:ByteArray):List Qu×List Ev×Int :=
 bif !eV t then fY 2 else bif decide (bV n 0 t<0) then fY 10 else
 bif !decide ((bd (t.getD (jo t n) yS) p).2.2=0) then fY (bd (t.getD (jo t n) yS) p).2.2 else
 (t.set (jo t n) (bd (t.getD (jo t n) yS) p).1,bo n (bd (t.getD (jo t n) yS) p).2.1,0)
def cO (t:List Qu) (p:Pr) (a:Tm):List Qu×List Ev×Int :=
 bif !eV t then fY 2 else bif decide (bV a.name 0 t<0) then fY 10 else
 bif !decide ((aY (t.getD (jo t a.name) yS) p a.am).2.2=0) then fY (aY (t.getD (jo t a.name) yS) p a.am).2.2 else
 (t.set (jo t a.name) (aY (t.getD (jo t a.name) yS) p a.am).1,(bif decide (af (t.getD (jo t a.name) yS).holds p=a.am) then [] else [⟨3,p,a.name,a.am⟩])++bo a.name (aY (t.getD (jo t a.name) yS) p a.am).2.1,0)
def aU (p:Pr):List Qu->List Qu×List Ev
 | []=>([],[])
 | q :: l=>bif !dY q p then (q :: (aU p l).1,(aU p l).2) else
  ((br q p).1 :: (aU p l).1,(bif aJ (af q.holds p) then [] else [⟨3,p,q.res.name,⟨0,0⟩⟩])++bo (br q p).1.res.name (br q p).2.1++(aU p l).2)
def bM (t:List Qu) (p:Pr):List Qu×List Ev:=bif !eV t then ([],[]) else aU p t
structure En where
 name:ByteArray
 before:Am
 after:Am
deriving DecidableEq
structure Sv where
 label:Int
 at_:Int
deriving DecidableEq
def aV (a b:ByteArray):Bool:=a.toList == b.toList
theorem aZ {a b:ByteArray}:aV a b=true↔a=b:=uZ
theorem cb {a b:ByteArray}:aV a b=false↔a≠b:=by
 rw [<-Bool.not_eq_true,aZ]
def dI (n:ByteArray):Am->List En->Am
 | a,[]=>a
 | a,e :: l=>dI n (bif aV e.name n then e.after else a) l
def aw (l:List En) (n:ByteArray):Am:=dI n ⟨0,0⟩ l
theorem oc (n:ByteArray):∀(l m:List En) (a:Am),dI n a (l++m)=dI n (dI n a l) m
 | [],_,_=>rfl
 | e :: l,m,a=>oc n l m _
theorem kt (l:List En) (e:En) (n:ByteArray):aw (l++[e]) n=bif aV e.name n then e.after else aw l n:=by
 unfold aw;rw [oc];rfl
def dx (a b:Am):Bool:=bj b && !decide (a=b) && (aJ a || bj a && (bif !decide (a.mode=0) then dK b.mode a.mode else decide (a.units<b.units)))
def gj (pre:List En):List En->Bool
 | []=>true
 | e :: l=>bU e.name.toList && decide (e.before=aw pre e.name) && dx e.before e.after && gj (pre++[e]) l
def dZ (n:ByteArray):List ByteArray->Bool
 | []=>false
 | m :: l=>aV m n || dZ n l
theorem gP {n:ByteArray}:∀{l:List ByteArray},dZ n l=true↔n∈l
 | []=>by simp [dZ]
 | m :: l=>by
  show (aV m n || dZ n l)=true↔_;rw [Bool.or_eq_true,aZ,gP,List.mem_cons];exact or_congr_left ⟨Eq.symm,Eq.symm⟩
def ii (n:ByteArray):List ByteArray->List ByteArray
 | []=>[n]
 | m :: l=>bif fT n m then n :: m :: l else m :: ii n l
theorem ph {n x:ByteArray}:∀{l:List ByteArray},x∈ii n l↔x=n\/x∈l
 | []=>by simp [ii]
 | m :: l=>by
  show x∈(bif fT n m then n :: m :: l else m :: ii n l)↔_;cases fT n m with
  | true=>simp
  | false =>
   rw [qCf,List.mem_cons,ph,List.mem_cons];constructor
   ·rintro (h|h|h) <;> simp [h]
   ·rintro (h|h|h) <;> simp [h]
def dy:List ByteArray->List En->List ByteArray
 | acc,[]=>acc
 | acc,e :: l=>dy (bif dZ e.name acc then acc else ii e.name acc) l
def bt (l:List En):List ByteArray:=dy [] l
theorem sN {x:ByteArray}:∀{l:List En} {acc:List ByteArray},x∈dy acc l↔x∈acc\/∃e∈l,e.name=x
 | [],acc=>by simp [dy]
 | e :: l,acc=>by
  show x∈dy _ l↔_;rw [sN];have h:x∈(bif dZ e.name acc then acc else ii e.name acc)↔x∈acc\/e.name=x:=by
   cases hh:dZ e.name acc with
   | true =>
    rw [qCt];constructor
    ·exact .inl
    ·rintro (h|h)
     ·exact h
     ·exact h▸gP.1 hh
   | false =>
    rw [qCf,ph];constructor
    ·rintro (h|h)
     ·exact .inr h.symm
     ·exact .inl h
    ·rintro (h|h)
     ·exact .inr h
     ·exact .inl h.symm
  rw [h];constructor
  ·rintro ((h|h)|⟨f,h1,h2⟩)
   ·exact .inl h
   ·exact .inr ⟨e,by simp,h⟩
   ·exact .inr ⟨f,by simp [h1],h2⟩
  ·rintro (h|⟨f,h1,h2⟩)
   ·exact .inl (.inl h)
   ·rcases List.mem_cons.1 h1 with rfl|h1
    ·exact .inl (.inr h2)
    ·exact .inr ⟨f,h1,h2⟩
theorem cP {l:List En} {x:ByteArray}:x∈bt l↔∃e∈l,e.name=x:=by unfold bt;rw [sN];simp
def i5 (l:List ByteArray):Prop:=l.Pairwise fun a b=>fT a b=true
theorem mO {a b:ByteArray} (h1:fT a b=false) (h2:a≠b):fT b a=true:=by
 unfold fT at *
 rw [bytesLess_eq,decide_eq_false_iff_not] at h1;rw [bytesLess_eq,decide_eq_true_eq];rcases Std.lt_trichotomy a.toList b.toList with h|h|h
 ·exact absurd h h1
 ·exact absurd (toList_inj h) h2
 ·exact h
theorem pi {n:ByteArray}:∀{l:List ByteArray},i5 l->n ∉ l->i5 (ii n l)
 | [],_,_=>by simp [ii,i5]
 | m :: l,h,hn=>by
  obtain ⟨h1,h2⟩:=List.pairwise_cons.1 h;show i5 (bif fT n m then n :: m :: l else m :: ii n l);cases hc:fT n m with
  | true =>
   refine List.pairwise_cons.2 ⟨fun x hx=>?_,h⟩;rcases List.mem_cons.1 hx with rfl|hx
   ·exact hc
   ·exact dS hc (h1 x hx)
  | false =>
   have hm:fT m n=true:=mO hc (fun e=>hn (by simp [e]));refine List.pairwise_cons.2 ⟨fun x hx=>?_,pi h2 (fun hx=>hn (by simp [hx]))⟩;rcases ph.1 hx with rfl|hx
   ·exact hm
   ·exact h1 x hx
theorem sO:∀{l:List En} {acc:List ByteArray},i5 acc->i5 (dy acc l)
 | [],_,h=>h
 | e :: l,acc,h=>by
  refine sO (l:=l) ?_;cases hh:dZ e.name acc with
  | true=>exact h
  | false=>exact pi h fun hm=>by rw [gP.2 hm] at hh;cases hh
theorem gv (l:List En):i5 (bt l):=sO (by simp [i5])
def aO (n:Int):Nat->List Sv->Int
 | _,[]=>-1
 | k,s :: l=>bif decide (s.label=n) then (k:Int) else aO n (k+1) l
def ny (all:List Sv) (n:Int):Nat->Int->List Sv->Bool
 | _,_,[]=>true
 | k,at_,s :: l=>decide (1<=s.label) && decide (s.label<=99) && decide (0<=s.at_) && decide (s.at_<=n) && decide (at_<=s.at_) && decide (aO s.label 0 all=(k:Int)) && ny all n (k+1) s.at_ l
def lA (l:List En) (s:List Sv):Bool:=decide (l.length<=72) && decide (s.length<=4) && gj [] l && decide ((bt l).length<=8) && ny s l.length 0 0 s
structure EntOk (pre:List En) (e:En):Prop where
 nm:bU e.name.toList=true
 bef:e.before=aw pre e.name
 gr:dx e.before e.after=true
def Ents (l:List En):Prop:=∀k (h:k<l.length),EntOk (l.take k) l[k]
theorem xF:∀(l pre:List En),gj pre l=true↔∀k (h:k<l.length),EntOk (pre++l.take k) l[k]
 | [],_=>by simp [gj]
 | e :: l,pre=>by
  show (bU e.name.toList && decide (e.before=aw pre e.name) && dx e.before e.after && gj (pre++[e]) l)=true↔_;simp only [qBa,decide_eq_true_eq,xF l];constructor
  ·rintro ⟨⟨⟨h1,h2⟩,h3⟩,h4⟩ k hk;cases k with
   | zero=>simpa using ⟨h1,h2,h3⟩
   | succ k =>
    have:=h4 k (by simpa using hk);simpa [List.append_assoc] using this
  ·intro h;have h0:=h 0 (by simp);simp only [List.take_zero,List.append_nil,List.getElem_cons_zero] at h0;refine ⟨⟨⟨h0.nm,h0.bef⟩,h0.gr⟩,fun k hk=>?_⟩;have:=h (k+1) (by simpa using hk);simpa [List.append_assoc] using this
theorem Ax {l:List En}:gj [] l=true↔Ents l:=by
 rw [xF];unfold Ents;simp
theorem Ents.snoc {l:List En} {e:En}:Ents (l++[e])↔Ents l/\EntOk l e:=by
 constructor
 ·intro h;refine ⟨fun k hk=>?_,?_⟩
  ·have h1:=h k (by simp;omega);rw [List.take_append_of_le_length (by omega),List.getElem_append_left hk] at h1;exact h1
  ·have h1:=h l.length (by simp);simpa using h1
 ·rintro ⟨h1,h2⟩ k hk;by_cases hl:k<l.length
  ·rw [List.take_append_of_le_length (by omega),List.getElem_append_left hl];exact h1 k hl
  ·have:k=l.length:=by simp at hk;omega
   subst this;simpa using h2
theorem Ents.take {l:List En} (h:Ents l) (n:Nat):Ents (l.take n):=by
 intro k hk;have h1:k<l.length:=by rw [List.length_take] at hk;omega
 have h2:=h k h1;have h3:(l.take n).take k=l.take k:=by rw [List.take_take];congr 1;rw [List.length_take] at hk;omega
 rw [h3,List.getElem_take];exact h2
theorem pj {P:List En->Prop} (h0:P []) (hs:∀l e,Ents l->EntOk l e->P l->P (l++[e])):∀l,Ents l->P l:=by
 intro l;have:∀n (l:List En),l.length=n->Ents l->P l:=by
  intro n;induction n with
  | zero=>intro l hl _;rw [List.eq_nil_of_length_eq_zero hl];exact h0
  | succ n ih =>
   intro l hl h;have hne:l≠[]:=by rintro rfl;simp at hl
   have e:=List.dropLast_concat_getLast hne;rw [<-e] at h;obtain ⟨h1,h2⟩:=Ents.snoc.1 h;rw [<-e];exact hs _ _ h1 h2 (ih _ (by rw [List.length_dropLast];omega) h1)
 exact this _ l rfl
def Mq (b a:Am):Prop:=a=b\/(bj a=true/\bj b=true/\((a.mode≠0/\dK b.mode a.mode=true)\/(a.mode=0/\b.mode=0/\a.units<b.units)))
theorem cV {a:Am} (h:bj a=true):(bP a.mode=true/\a.units=0)\/(a.mode=0/\1<=a.units/\a.units<=8):=by
 unfold bj at h;simp only [Bool.or_eq_true,qBa,decide_eq_true_eq] at h;rcases h with h|h
 ·exact .inl h
 ·exact .inr ⟨h.1.1,h.1.2,h.2⟩
theorem fP {m:Int}:bP m=true↔1<=m/\m<=5:=by unfold bP;simp
theorem pk {a b:Int}:dK a b=true↔(1<=a/\a<=5)/\(1<=b/\b<=5)/\(a=b\/a=5\/b=1\/(a=4/\b≠5)):=by
 unfold dK;simp only [qBa,Bool.or_eq_true,decide_eq_true_eq,Bool.not_eq_true',decide_eq_false_iff_not,fP];constructor
 ·rintro ⟨⟨h1,h2⟩,h3⟩;exact ⟨h1,h2,by rcases h3 with ((h|h)|h)|h <;> simp [h]⟩
 ·rintro ⟨h1,h2,h3⟩;exact ⟨⟨h1,h2⟩,by rcases h3 with h|h|h|h <;> simp [h]⟩
theorem pm {a b:Am} (h:dx a b=true):bj b=true/\a≠b/\(a=⟨0,0⟩\/(bj a=true/\Mq b a)):=by
 unfold dx at h;simp only [qBa,Bool.not_eq_true',decide_eq_false_iff_not,Bool.or_eq_true] at h;obtain ⟨⟨h1,h2⟩,h3⟩:=h;refine ⟨h1,h2,?_⟩;rcases h3 with h3|⟨h3,h4⟩
 ·exact .inl (of_decide_eq_true h3)
 ·refine .inr ⟨h3,.inr ⟨h3,h1,?_⟩⟩;by_cases hm:a.mode=0
  ·rw [qDt hm,Bool.not_true,qCf,decide_eq_true_eq] at h4;refine .inr ⟨hm,?_,h4⟩;rcases cV h1 with ⟨h5,h6⟩|⟨h5,_⟩
   ·rcases cV h3 with ⟨h7,_⟩|⟨_,h7,_⟩
    ·rw [hm] at h7;exact absurd h7 (by decide)
    ·omega
   ·exact h5
  ·rw [qDf hm,Bool.not_false,qCt] at h4;exact .inl ⟨hm,h4⟩
theorem FP {a b c:Am} (h1:Mq c b) (h2:Mq b a):Mq c a:=by
 rcases h1 with rfl|⟨u1,u2,h1⟩
 ·exact h2
 ·rcases h2 with rfl|⟨u3,_,h2⟩
  ·exact .inr ⟨u1,u2,h1⟩
  ·refine .inr ⟨u3,u2,?_⟩;rcases h2 with ⟨h3,h4⟩|⟨h3,h4,h5⟩
   ·rcases h1 with ⟨h6,h7⟩|⟨h6,_,_⟩
    ·refine .inl ⟨h3,?_⟩;rw [pk] at h4 h7 ⊢;omega
    ·rw [pk] at h4;omega
   ·rcases h1 with ⟨h6,_⟩|⟨_,h6,h7⟩
    ·exact absurd h4 h6
    ·exact .inr ⟨h3,h6,by omega⟩
def Kb (a:Am):Int:=a.mode+a.units
theorem H7 {a b:Am} (h:dx a b=true):Kb a<Kb b/\Kb b<=8:=by
 obtain ⟨h1,h2,h3⟩:=pm h;obtain ⟨am,au⟩:=a;obtain ⟨bm,bu⟩:=b;unfold Kb;have hb:=cV h1;simp only [fP] at hb;dsimp only at *
 rcases h3 with h3|⟨h3,h4⟩
 ·injection h3 with e1 e2;subst e1;subst e2;omega
 ·have ha:=cV h3;simp only [fP] at ha;rcases h4 with h4|⟨_,_,h4⟩
  ·exact absurd h4 h2
  ·dsimp only at h4;rcases h4 with ⟨h5,h6⟩|⟨h5,h6,h7⟩
   ·rw [pk] at h6;have:¬(am=bm/\au=bu):=fun e=>h2 (by rw [e.1,e.2]);omega
   ·omega
theorem qS {l:List En} (h:Ents l) (n:ByteArray):∀k,aw (l.take k) n=⟨0,0⟩\/Mq (aw l n) (aw (l.take k) n):=by
 refine pj (P:=fun l=>∀k,aw (l.take k) n=⟨0,0⟩\/Mq (aw l n) (aw (l.take k) n)) (fun k=>.inl (by simp [aw,dI])) ?_ l h;intro l e _ he ih k;by_cases hk:k<=l.length
 ·rw [List.take_append_of_le_length hk,kt];rcases ih k with h1|h1
  ·exact .inl h1
  ·cases hn:aV e.name n with
   | false=>exact .inr h1
   | true =>
    have hnn:=aZ.1 hn;subst hnn;rw [qCt];obtain ⟨_,_,h2⟩:=pm he.gr;rw [he.bef] at h2;rcases h2 with h2|⟨_,h2⟩
    ·rw [h2] at h1;rcases h1 with h1|⟨h1,h3,_⟩
     ·exact .inl h1
     ·exact absurd h3 (by decide)
    ·exact .inr (FP h2 h1)
 ·rw [List.take_of_length_le (by simp;omega)];exact .inr (.inl rfl)
theorem H8 {l:List En} (h:Ents l) (n:ByteArray):((l.filter fun e=>aV e.name n).length:Int)<=Kb (aw l n)/\Kb (aw l n)<=8:=by
 refine pj (P:=fun l=>((l.filter fun e=>aV e.name n).length:Int)<=Kb (aw l n)/\Kb (aw l n)<=8) ⟨by simp [aw,dI,Kb],by simp [aw,dI,Kb]⟩ ?_ l h;intro l e _ he ih;rw [kt,List.filter_append,List.length_append];cases hn:aV e.name n with
 | false =>
  have:[e].filter (fun e=>aV e.name n)=[]:=by simp [hn]
  rw [this];simpa using ih
 | true =>
  have hnn:=aZ.1 hn;subst hnn;have:[e].filter (fun x=>aV x.name e.name)=[e]:=by simp [aV]
  rw [this,qCt];have h1:=H7 he.gr;rw [he.bef] at h1;simp only [List.length_singleton];omega
theorem vb {α:Type} (p:α->Bool):∀l:List α,l.length=(l.filter p).length+(l.filter fun x=>!p x).length
 | []=>rfl
 | x :: l=>by
  have:=vb p l;rw [List.filter_cons,List.filter_cons,List.length_cons];cases p x with
  | true=>simp;omega
  | false=>simp;omega
theorem xG:∀(ns:List ByteArray) (l:List En),(∀e∈l,e.name∈ns)->(∀n∈ns,(l.filter fun e=>aV e.name n).length<=8)->l.length<=8*ns.length
 | [],l,h,_=>by
  cases l with
  | nil=>simp
  | cons e l=>exact absurd (h e (by simp)) (by simp)
 | n :: ns,l,h,hc=>by
  have h1:=xG ns (l.filter fun e=>!aV e.name n) (fun e he=>by
   have h2:=(List.mem_filter.1 he);rcases List.mem_cons.1 (h e h2.1) with h3|h3
   ·have:=h2.2;rw [Bool.not_eq_true',cb] at this;exact absurd h3 this
   ·exact h3) (fun m hm=>Nat.le_trans (((List.filter_sublist (p:=fun e:En=>!aV e.name n) (l:=l)).filter fun e=>aV e.name m).length_le) (hc m (by simp [hm])))
  have h2:=hc n (by simp);have h3:=vb (fun e:En=>aV e.name n) l;rw [List.length_cons];omega
theorem Ay {l:List En} (h:Ents l) (hn:(bt l).length<=8):l.length<=64:=by
 have:=xG (bt l) l (fun e he=>cP.2 ⟨e,he,rfl⟩) (fun n _=>by have:=H8 h n;omega);omega
structure Lg where
 entries:List En
 saves:List Sv
deriving DecidableEq
def qT (g:Lg):Bool:=lA g.entries g.saves
def Lg.zero:Lg:=⟨[],[]⟩
structure Svs (s:List Sv) (n:Int):Prop where
 lab:∀x∈s,(1<=x.label/\x.label<=99)/\0<=x.at_/\x.at_<=n
 ord:s.Pairwise fun a b=>a.at_<=b.at_
 nd:(s.map (·.label)).Nodup
theorem sP {n:Int}:∀{l:List Sv} {k:Nat},(∀x∈l,x.label≠n)->aO n k l = -1
 | [],_,_=>rfl
 | x :: l,k,h=>by
  show (bif decide (x.label=n) then (k:Int) else aO n (k+1) l) = -1;rw [qDf (h x (by simp)),qCf];exact sP fun y hy=>h y (by simp [hy])
theorem ja {n:Int}:∀{l:List Sv} {k:Nat},0<=aO n k l->∃i,∃h:i<l.length,aO n k l=((k+i:Nat):Int)/\l[i].label=n
 | [],k,h=>by simp [aO] at h
 | x :: l,k,h=>by
  have e:aO n k (x :: l)=bif decide (x.label=n) then (k:Int) else aO n (k+1) l:=rfl;rw [e] at h ⊢;by_cases hx:x.label=n
  ·exact ⟨0,by simp,by rw [qDt hx];simp,hx⟩
  ·rw [qDf hx,qCf] at h ⊢;obtain ⟨i,hi,h1,h2⟩:=ja h;exact RO
theorem od {n:Int} {l:List Sv} {k:Nat}:aO n k l<0↔∀x∈l,x.label≠n:=by
 constructor
 ·intro h x hx e;have gen:∀(l:List Sv) (k:Nat),x∈l->0<=aO n k l:=by
   intro l;induction l with
   | nil=>intro _ h;cases h
   | cons y l ih =>
    intro k h;show 0<=(bif decide (y.label=n) then (k:Int) else aO n (k+1) l);rcases List.mem_cons.1 h with rfl|h
    ·rw [qDt e,qCt];omega
    ·cases decide (y.label=n) with
     | true=>rw [qCt];omega
     | false=>exact ih (k+1) h
  have:=gen l k hx;omega
 ·intro h;rw [sP h];omega
theorem vc {n:Int}:∀(pre:List Sv) (k:Nat) (x:Sv) (l:List Sv),x.label=n->(aO n k (pre++x :: l)=((k+pre.length:Nat):Int)↔∀y∈pre,y.label≠n)
 | [],k,x,l,h=>by
  have:aO n k (x :: l)=bif decide (x.label=n) then (k:Int) else aO n (k+1) l:=rfl;simp [this,h]
 | y :: pre,k,x,l,h=>by
  have e:aO n k ((y :: pre)++x :: l)=bif decide (y.label=n) then (k:Int) else aO n (k+1) (pre++x :: l):=rfl;rw [e,List.length_cons];by_cases hy:y.label=n
  ·rw [qDt hy,qCt];constructor
   ·intro h;omega
   ·intro h2;exact absurd hy (h2 y (by simp))
  ·rw [qDf hy,qCf];have ih:=vc pre (k+1) x l h;have e1:((k+(pre.length+1):Nat):Int)=((k+1+pre.length:Nat):Int):=by omega
   rw [e1,ih];constructor
   ·intro h2 z hz;rcases List.mem_cons.1 hz with rfl|hz
    ·exact hy
    ·exact h2 z hz
   ·intro h2 z hz;exact h2 z (by simp [hz])
theorem vd (n:Int):∀(l pre:List Sv) (a:Int),0<=a->(pre.map (·.label)).Nodup->(ny (pre++l) n pre.length a l=true↔(∀x∈l,(1<=x.label/\x.label<=99)/\0<=x.at_/\x.at_<=n)/\(l.Pairwise fun x y=>x.at_<=y.at_)/\(∀x∈l,a<=x.at_)/\((pre++l).map (·.label)).Nodup)
 | [],pre,a,_,hp=>by
  simpa [ny] using hp
 | x :: l,pre,a,ha,hp=>by
  show (decide (1<=x.label) && decide (x.label<=99) && decide (0<=x.at_) && decide (x.at_<=n) && decide (a<=x.at_) && decide (aO x.label 0 (pre++x :: l)=(pre.length:Int)) && ny (pre++x :: l) n (pre.length+1) x.at_ l)=true↔_;simp only [qBa,decide_eq_true_eq];have hf:aO x.label 0 (pre++x :: l)=(pre.length:Int)↔∀y∈pre,y.label≠x.label:=by
   have:=vc pre 0 x l rfl
   rwa [Nat.zero_add] at this
  have hpx:((pre++[x]).map (·.label)).Nodup↔∀y∈pre,y.label≠x.label:=by
   rw [List.map_append,List.nodup_append];constructor
   ·rintro ⟨_,_,h⟩ y hy;exact h y.label (List.mem_map.2 ⟨y,hy,rfl⟩) x.label (by simp)
   ·intro h;refine ⟨hp,by simp,?_⟩;intro u hu v hv;obtain ⟨y,hy,rfl⟩:=List.mem_map.1 hu;simp at hv;subst hv;exact h y hy
  have e1:pre++x :: l=(pre++[x])++l:=by simp
  have e2:pre.length+1=(pre++[x]).length:=by simp
  rw [hf];constructor
  ·rintro ⟨⟨⟨⟨⟨⟨h1,h2⟩,h3⟩,h4⟩,h5⟩,h6⟩,h7⟩;rw [e1,e2,vd n l (pre++[x]) x.at_ h3 (hpx.2 h6)] at h7;obtain ⟨k1,k2,k3,k4⟩:=h7;refine ⟨?_,List.pairwise_cons.2 ⟨k3,k2⟩,?_,by rw [e1];exact k4⟩
   ·intro y hy;rcases List.mem_cons.1 hy with rfl|hy
    ·exact ⟨⟨h1,h2⟩,h3,h4⟩
    ·exact k1 y hy
   ·intro y hy;rcases List.mem_cons.1 hy with rfl|hy
    ·exact h5
    ·have:=k3 y hy;omega
  ·rintro ⟨h1,h2,h3,h4⟩;obtain ⟨k1,k2⟩:=List.pairwise_cons.1 h2;have hx:=h1 x (by simp);rw [e1] at h4;have h6:∀y∈pre,y.label≠x.label:=hpx.1 (by rw [List.map_append] at h4;exact (List.nodup_append.1 h4).1);refine ⟨⟨⟨⟨⟨⟨hx.1.1,hx.1.2⟩,hx.2.1⟩,hx.2.2⟩,h3 x (by simp)⟩,h6⟩,?_⟩;rw [e1,e2,vd n l (pre++[x]) x.at_ hx.2.1 (hpx.2 h6)];exact ⟨fun y hy=>h1 y (by simp [hy]),k2,k1,h4⟩
structure Ld (g:Lg):Prop where
 slen:g.saves.length<=4
 ents:Ents g.entries
 nms:(bt g.entries).length<=8
 svs:Svs g.saves g.entries.length
theorem fZ {g:Lg}:qT g=true↔Ld g:=by
 unfold qT lA;simp only [qBa,decide_eq_true_eq,Ax];have h:=vd (g.entries.length:Int) g.saves [] 0 (Int.le_refl _) (by simp);simp only [List.nil_append,List.length_nil] at h;rw [h];constructor
 ·rintro ⟨⟨⟨⟨h1,h2⟩,h3⟩,h4⟩,h5,h6,h7,h8⟩;exact ⟨h2,h3,h4,h5,h6,h8⟩
 ·rintro ⟨h2,h3,h4,h5,h6,h8⟩;exact ⟨⟨⟨⟨by have:=Ay h3 h4;omega,h2⟩,h3⟩,h4⟩,h5,h6,fun x hx=>(h5 x hx).2.1,h8⟩
def ij (g:Lg) (e:En):Lg×Int:=bif !qT g then (.zero,2) else bif !qT ⟨g.entries++[e],g.saves⟩ then (.zero,1) else (⟨g.entries++[e],g.saves⟩,0)
def iH (g:Lg) (n:Int):Lg×Int :=
 bif !qT g then (.zero,2) else bif !(decide (1<=n) && decide (n<=99)) then (.zero,1) else bif decide (0<=aO n 0 g.saves) then (.zero,11) else bif decide (g.saves.length=4) then (.zero,4) else (⟨g.entries,g.saves++[⟨n,g.entries.length⟩]⟩,0)
def bw (g:Lg) (n:Int):Lg:=bif decide (n=0) then ⟨[],[]⟩ else ⟨g.entries.take ((g.saves.getD (aO n 0 g.saves).toNat ⟨0,0⟩).at_).toNat,g.saves.take ((aO n 0 g.saves).toNat+1)⟩
def cd (g:Lg) (n:Int):Lg×List Tm×Int :=
 bif !qT g then (.zero,[],2) else bif !decide (n=0) && decide (aO n 0 g.saves<0) then (.zero,[],10) else
 (bw g n,(bt (g.entries.drop (bw g n).entries.length)).map fun m=>⟨m,aw (bw g n).entries m⟩,0)
def oth (n:ByteArray) (e:En):Bool:=!aV e.name n
def iI (g:Lg) (n:ByteArray):Lg:=⟨g.entries.filter (oth n),g.saves.map fun s=>⟨s.label,((g.entries.take s.at_.toNat).filter (oth n)).length⟩⟩
def mi (g:Lg) (n:ByteArray):Lg×Bool:=bif !qT g then (.zero,false) else bif decide ((iI g n).entries.length=g.entries.length) then (.zero,false) else (iI g n,true)
def iJ (g:Lg):List Tm:=((bt g.entries).map fun m=>(⟨m,aw g.entries m⟩:Tm)).filter fun a=>!aJ a.am
theorem ku {l:List ByteArray} (h:i5 l):l.Nodup:=h.imp fun {a b} (hab:fT a b=true) (e:a=b)=>by rw [e,dh] at hab;cases hab
theorem qU {α:Type} [DecidableEq α] {l m:List α} (hn:l.Nodup) (hs:∀x∈l,x∈m):l.length<=m.length:=by
 induction l generalizing m with
 | nil=>exact Nat.zero_le _
 | cons x l ih =>
  rw [List.nodup_cons] at hn;have hx:=hs x (by simp);have h1:=ih (m:=m.erase x) hn.2 fun y hy=>(List.mem_erase_of_ne (fun (e:y=x)=>hn.1 (e▸hy))).2 (hs y (by simp [hy]));have h2:=List.length_erase_of_mem hx;have h3:=List.length_pos_of_mem hx;rw [List.length_cons];omega
theorem xH {l m:List En} (h:∀e∈l,e∈m):(bt l).length<=(bt m).length :=
 qU (ku (gv l)) fun x hx=>by
  obtain ⟨e,he,hn⟩:=cP.1 hx;exact cP.2 ⟨e,h e he,hn⟩
theorem Svs.mono {s:List Sv} {n m:Int} (h:Svs s n) (hm:n<=m):Svs s m:=⟨fun x hx=>⟨(h.lab x hx).1,(h.lab x hx).2.1,by have:=(h.lab x hx).2.2;omega⟩,h.ord,h.nd⟩
theorem FQ {g:Lg} (h:Ld g) {e:En} (hn:bU e.name.toList=true) (hb:e.before=aw g.entries e.name) (hg:dx e.before e.after=true) {ns:List ByteArray} (hns:ns.length<=8) (h1:∀x∈g.entries,x.name∈ns) (h2:e.name∈ns) :
  ij g e=(⟨g.entries++[e],g.saves⟩,0)/\Ld ⟨g.entries++[e],g.saves⟩:=by
 have hl:Ld ⟨g.entries++[e],g.saves⟩:=by
  refine ⟨h.slen,Ents.snoc.2 ⟨h.ents,hn,hb,hg⟩,?_,h.svs.mono (by show (g.entries.length:Int)<=((g.entries++[e]).length:Nat);rw [List.length_append];omega)⟩;have:=qU (m:=ns) (ku (gv (g.entries++[e]))) fun x hx=>by
   obtain ⟨f,hf,hfx⟩:=cP.1 hx;rcases List.mem_append.1 hf with hf|hf
   ·exact hfx▸h1 f hf
   ·rw [List.mem_singleton] at hf;subst hf;exact hfx▸h2
  show (bt (g.entries++[e])).length<=8;omega
 refine ⟨?_,hl⟩;unfold ij;rw [fZ.2 h,fZ.2 hl];rfl
theorem KT {g:Lg} {n:Int} (h:(iH g n).2=0):Ld g/\iH g n=(⟨g.entries,g.saves++[⟨n,g.entries.length⟩]⟩,0)/\Ld ⟨g.entries,g.saves++[⟨n,g.entries.length⟩]⟩:=by
 unfold iH at h ⊢;cases hV:qT g with
 | false=>rw [hV] at h;simp at h
 | true =>
  have hl:=fZ.1 hV;rw [hV] at h;simp only [Bool.not_true,qCf] at h ⊢;cases hA:decide (1<=n) && decide (n<=99) with
  | false=>rw [hA] at h;simp at h
  | true =>
   rw [hA] at h;simp only [Bool.not_true,qCf] at h ⊢;simp only [qBa,decide_eq_true_eq] at hA;by_cases hF:0<=aO n 0 g.saves
   ·rw [qDt hF] at h;simp at h
   ·rw [qDf hF] at h ⊢;simp only [qCf] at h ⊢;by_cases h4:g.saves.length=4
    ·rw [qDt h4] at h;simp at h
    ·rw [qDf h4];refine ⟨hl,rfl,by have:=hl.slen;simp;omega,hl.ents,hl.nms,?_,?_,?_⟩
     ·intro x hx;rcases List.mem_append.1 hx with hx|hx
      ·exact hl.svs.lab x hx
      ·rw [List.mem_singleton] at hx;subst hx;exact ⟨hA,by simp,by simp⟩
     ·rw [List.pairwise_append];refine ⟨hl.svs.ord,by simp,?_⟩;intro x hx y hy;rw [List.mem_singleton] at hy;subst hy;exact (hl.svs.lab x hx).2.2
     ·rw [List.map_append,List.nodup_append];refine ⟨hl.svs.nd,by simp,?_⟩;intro u hu v hv;obtain ⟨y,hy,rfl⟩:=List.mem_map.1 hu;simp at hv;subst hv;exact (od (k:=0)).1 (by omega) y hy
theorem D3 {g:Lg} {n:Int} (h:(cd g n).2.2=0):Ld g/\Ld (bw g n)/\cd g n=(bw g n,(bt (g.entries.drop (bw g n).entries.length)).map fun m=>⟨m,aw (bw g n).entries m⟩,0)/\(bw g n).entries=g.entries.take (bw g n).entries.length:=by
 unfold cd at h ⊢;cases hV:qT g with
 | false=>rw [hV] at h;simp at h
 | true =>
  have hl:=fZ.1 hV;rw [hV] at h;simp only [Bool.not_true,qCf] at h ⊢;cases hA : !decide (n=0) && decide (aO n 0 g.saves<0) with
  | true=>rw [hA] at h;simp at h
  | false =>
   refine ⟨hl,?_,rfl,?_⟩
   ·unfold bw;by_cases h0:n=0
    ·rw [qDt h0,qCt];exact ⟨by simp,fun k hk=>absurd hk (by simp),by simp [bt,dy],fun x hx=>absurd hx (by simp),by simp,by simp⟩
    ·rw [qDf h0] at hA ⊢;simp only [Bool.not_false,Bool.true_and,decide_eq_false_iff_not] at hA;obtain ⟨i,hi,e1,e2⟩:=ja (n:=n) (l:=g.saves) (k:=0) (by omega);have e3:(aO n 0 g.saves).toNat=i:=by rw [e1];omega
     rw [e3,qCf];have e4:g.saves.getD i ⟨0,0⟩=g.saves[i]:=by simp [hi]
     rw [e4];have hsi:=hl.svs.lab g.saves[i] (List.getElem_mem hi);refine ⟨by have:=hl.slen;simp;omega,hl.ents.take _,Nat.le_trans (xH fun e he=>List.mem_of_mem_take he) hl.nms,?_,?_,?_⟩
     ·intro x hx;have h1:=hl.svs.lab x (List.mem_of_mem_take hx);refine ⟨h1.1,h1.2.1,?_⟩;obtain ⟨j,hj,e⟩:=List.mem_iff_getElem.1 hx;rw [List.getElem_take] at e;have hj2:j<g.saves.length:=by rw [List.length_take] at hj;omega
      have hji:j<=i:=by rw [List.length_take] at hj;omega
      have h2:g.saves[j].at_<=g.saves[i].at_:=by
       rcases Nat.lt_or_eq_of_le hji with hlt|rfl
       ·exact List.pairwise_iff_getElem.1 hl.svs.ord j i hj2 hi hlt
       ·exact Int.le_refl _
      rw [e] at h2;show x.at_<=((g.entries.take g.saves[i].at_.toNat).length:Nat);rw [List.length_take];omega
     ·exact hl.svs.ord.sublist (List.take_sublist _ _)
     ·exact hl.svs.nd.sublist ((List.take_sublist _ _).map _)
   ·unfold bw;cases decide (n=0) with
    | true=>simp
    | false =>
     simp only [qCf];rw [List.length_take];rcases Nat.le_total (g.saves.getD (aO n 0 g.saves).toNat ⟨0,0⟩).at_.toNat g.entries.length with h|h
     ·rw [Nat.min_eq_left h]
     ·rw [Nat.min_eq_right h,List.take_of_length_le h,List.take_length]
theorem mj (n m:ByteArray):∀(l:List En) (a:Am),(m=n->a=⟨0,0⟩)->dI m a (l.filter (oth n))=if m=n then ⟨0,0⟩ else dI m a l
 | [],a,ha=>by
  by_cases h:m=n
  ·simp [dI,h,ha h]
  ·simp [dI,h]
 | e :: l,a,ha=>by
  rw [List.filter_cons];unfold oth;cases he:aV e.name n with
  | true =>
   have hen:=aZ.1 he;simp only [Bool.not_true,Bool.false_eq_true,if_false];rw [show (List.filter (fun e=>!aV e.name n) l)=l.filter (oth n) from rfl,mj n m l a ha];by_cases h:m=n
   ·rw [if_pos h,if_pos h]
   ·rw [if_neg h,if_neg h];have:aV e.name m=false:=cb.2 fun h2=>h (h2.symm.trans hen);show dI m a l=dI m (bif aV e.name m then e.after else a) l;rw [this];rfl
  | false =>
   have hen:=cb.1 he;simp only [Bool.not_false,if_true];show dI m (bif aV e.name m then e.after else a) (l.filter (oth n))=_;rw [mj n m l _ (fun h=>by
    have:aV e.name m=false:=cb.2 fun h2=>hen (h2.trans h);rw [this];exact ha h)]
   rfl
theorem kv (n m:ByteArray) (l:List En):aw (l.filter (oth n)) m=if m=n then ⟨0,0⟩ else aw l m:=mj n m l _ fun _=>rfl
theorem Az {l:List En} (h:Ents l) (n:ByteArray):Ents (l.filter (oth n)):=by
 refine pj (P:=fun l=>Ents (l.filter (oth n))) (fun k hk=>absurd hk (by simp)) ?_ l h;intro l e _ he ih;rw [List.filter_append];cases ho:oth n e with
 | false =>
  have:[e].filter (oth n)=[]:=by simp [ho]
  rw [this,List.append_nil];exact ih
 | true =>
  have:[e].filter (oth n)=[e]:=by simp [ho]
  rw [this];have hne:e.name≠n:=by unfold oth at ho;rw [Bool.not_eq_true',cb] at ho;exact ho
  exact Ents.snoc.2 ⟨ih,he.nm,by rw [kv,if_neg hne];exact he.bef,he.gr⟩
theorem qV {α:Type} (p:α->Bool) (l:List α) {i j:Nat} (h:i<=j):((l.take i).filter p).length<=((l.take j).filter p).length:=by
 have:l.take i=(l.take j).take i:=by rw [List.take_take];congr 1;omega
 rw [this];exact ((List.take_sublist i (l.take j)).filter p).length_le
theorem KU {g:Lg} (h:Ld g) (n:ByteArray):Ld (iI g n):=by
 unfold iI;refine ⟨by have:=h.slen;simpa using this,Az h.ents n,Nat.le_trans (xH fun e he=>(List.mem_filter.1 he).1) h.nms,?_,?_,?_⟩
 ·intro x hx;obtain ⟨s,hs,rfl⟩:=List.mem_map.1 hx;have h1:=h.svs.lab s hs;refine ⟨h1.1,Int.natCast_nonneg _,?_⟩;have:=((List.take_sublist s.at_.toNat g.entries).filter (oth n)).length_le;show (((g.entries.take s.at_.toNat).filter (oth n)).length:Int)<=((g.entries.filter (oth n)).length:Nat);omega
 ·rw [List.pairwise_map];exact h.svs.ord.imp fun {a b} (hab:a.at_<=b.at_)=>by
   have:=qV (oth n) g.entries (i:=a.at_.toNat) (j:=b.at_.toNat) (by omega);show ((_:Nat):Int)<=((_:Nat):Int);omega
 ·rw [List.map_map];exact h.svs.nd
structure Rq where
 expr:Ex
 prio:Int
 limit:Int
def Rq.zero:Rq:=⟨Ex.zero,0,0⟩
structure Pc where
 proc:Pr
 cost:Int
 led:Lg
 waiting:Bool
 req:Rq
 since:Int
 gen:Int
def Kc:Pc:=⟨⟨0,0,0⟩,0,Lg.zero,false,Rq.zero,0,0⟩
structure Cs where
 now:Int
 queues:List Qu
 procs:List Pc
def P0:Cs:=⟨0,[],[]⟩
structure Cm where
 kind:Int
 proc:Pr
 req:Rq
 name:ByteArray
 n:Int
def bh (t:List Qu) (n:ByteArray):Bool:=decide (0<=bV n 0 t)
def bG (t:List Qu) (n:ByteArray):Qu:=t.getD (jo t n) yS
def bN (t:List Qu) (p:Pr) (x:Ex):List Bool:=(cR x).map fun a=>bh t a.name && bc (bG t a.name).res (af (bG t a.name).holds p) a.am
def gQ (t:List Qu):List Tm->Int
 | []=>0
 | a :: l=>bif !bh t a.name then 10 else bif !aH (bG t a.name).res a.am then 12 else gQ t l
def iK (t:List Qu) (x:Ex):Int:=bif !nZ x then 1 else gQ t (cR x)
def qW (r:Rq):Bool:=nZ r.expr && decide (0<=r.prio) && decide (r.prio<=7) && decide (0<=r.limit) && decide (r.limit<=1000)
def KV (x:Ex):Bool:=decide (x.k=0) && decide (x.atom=lp) && x.kids.isEmpty
def No (r:Rq):Bool:=KV r.expr && decide (r.prio=0) && decide (r.limit=0)
theorem KX {x:Ex}:KV x=true↔x=Ex.zero:=by
 obtain ⟨k,a,l⟩:=x;unfold KV Ex.zero;simp only [qBa,decide_eq_true_eq,List.isEmpty_iff];show (k=0/\a=lp)/\l=[]↔_;constructor
 ·rintro ⟨⟨rfl,rfl⟩,rfl⟩;rfl
 ·intro h;injection h with h1 h2 h3;exact ⟨⟨h1,h2⟩,h3⟩
theorem KY {r:Rq}:No r=true↔r=Rq.zero:=by
 obtain ⟨x,p,l⟩:=r;unfold No Rq.zero;simp only [qBa,decide_eq_true_eq,KX];constructor
 ·rintro ⟨⟨rfl,rfl⟩,rfl⟩;rfl
 ·intro h;injection h with h1 h2 h3;exact ⟨⟨h1,h2⟩,h3⟩
def cI (t:List Qu) (p:Pr):List Tm:=(t.map fun q=>(⟨q.res.name,af q.holds p⟩:Tm)).filter fun a=>!aJ a.am
def cY (p:Pr):List Qu->List Tm
 | []=>[]
 | q :: l=>match ah q p with
  | some a=>⟨q.res.name,a⟩ :: cY p l
  | none=>cY p l
def d7 (q:Qu) (x:Pc):List Tm->Bool
 | []=>decide (af q.holds x.proc=aw x.led.entries q.res.name) && !(ah q x.proc).isSome
 | a :: l=>bif !aV a.name q.res.name || bc q.res (aw x.led.entries q.res.name) a.am then d7 q x l else
  bif !(ah q x.proc).isSome then decide (af q.holds x.proc=cl q.res (aw x.led.entries q.res.name) a.am) else
  bif q.waits.any (fun y=>decide (y.proc=x.proc) && !decide (y.prio=x.req.prio)) then false else
  decide (af q.holds x.proc=aw x.led.entries q.res.name) && decide (ah q x.proc=some (cl q.res (aw x.led.entries q.res.name) a.am))
def sQ (c:Cs) (x:Pc):Bool :=
 gm x.proc && decide (1<=x.cost) && decide (x.cost<=1000) && qT x.led && decide (0<=x.gen) && decide (x.gen<=1073741824) &&
 (iJ x.led).all (fun a=>bh c.queues a.name && aH (bG c.queues a.name).res a.am) &&
 bif !x.waiting then No x.req && decide (x.since=0) && decide (iJ x.led=cI c.queues x.proc) && decide (cY x.proc c.queues=[]) else
 qW x.req && decide (iK c.queues x.req.expr=0) && decide (0<=x.since) && decide (x.since<=c.now) && (decide (x.req.limit=0) || decide (c.now<x.since+x.req.limit)) &&
 !fu x.req.expr (bN c.queues x.proc x.req.expr) && c.queues.all (fun q=>d7 q x (cR x.req.expr))
def d8 (p:Pr):Nat->List Pc->Int
 | _,[]=>-1
 | k,x :: l=>bif decide (x.proc=p) then (k:Int) else d8 p (k+1) l
def AA (c:Cs):Option Pr->List Pc->Bool
 | _,[]=>true
 | o,x :: l=>sQ c x && Mp o x.proc && AA c (some x.proc) l
def dA (c:Cs):Bool:=decide (0<=c.now) && decide (c.now<=1073741824) && eV c.queues && decide (c.procs.length<=8) && (aD c.queues).all (fun p=>decide (0<=d8 p 0 c.procs)) && AA c none c.procs
structure Wk where
 c:Cs
 ev:List Ev
def Wk.take (w:Wk) (t:List Qu) (ev:List Ev):Wk:=⟨{ w.c with queues:=t },w.ev++ev⟩
def Wk.note (w:Wk) (k:Int) (p:Pr):Wk:=⟨w.c,w.ev++[⟨k,p,⟨#[]⟩,⟨0,0⟩⟩]⟩
def Wk.pc (w:Wk) (i:Nat):Pc:=w.c.procs.getD i Kc
def Wk.setP (w:Wk) (i:Nat) (x:Pc):Wk:=⟨{ w.c with procs:=w.c.procs.set i x },w.ev⟩
def mP (w:Wk) (p:Pr) (n:ByteArray):Wk:=w.take (dq w.c.queues p n).1 (dq w.c.queues p n).2.1
def fK (w:Wk) (p:Pr) (a:Tm):Wk:=w.take (cO w.c.queues p a).1 (cO w.c.queues p a).2.1
def iL (w:Wk) (p:Pr) (n:ByteArray):Wk:=bif (ah (bG w.c.queues n) p).isSome then mP w p n else w
def di (w:Wk) (p:Pr) (n:ByteArray) (l:Am):Wk:=bif decide (af (bG w.c.queues n).holds p=l) then w else fK w p ⟨n,l⟩
def cg (w:Wk) (x:Pc) (n:ByteArray):Wk:=di (iL w x.proc n) x.proc n (aw x.led.entries n)
def fh (w:Wk) (i:Nat):Wk:=w.setP i { w.pc i with waiting:=false,req:=Rq.zero,since:=0 }
def bi (w:Wk) (i:Nat):Wk:=w.setP i { w.pc i with gen:=bE (w.pc i).gen }
def fv (x:Pc):List Tm->Wk->Wk
 | [],w=>w
 | a :: l,w=>fv x l (cg w x a.name)
def aC (w:Wk) (i:Nat):Wk:=fh (fv (w.pc i) (cR (w.pc i).req.expr) w) i
def eP (t:List Qu) (x:Pc):Bool:=x.waiting && fu x.req.expr (bN t x.proc x.req.expr)
def fG (t:List Qu):Nat->List Pc->Option Nat
 | _,[]=>none
 | k,x :: l=>bif eP t x then some k else fG t (k+1) l
def iM (x:Ex) (L:List Tm):Nat->List Bool->List Bool
 | 0,out=>out
 | i+1,out=>iM x L i (bif out.getD i false then out.set i (!Cu (fN L (out.set i false)) x) else out)
def dj (x:Ex) (set:List Bool):List Bool :=
 bif fu x set then iM x (cR x) (cR x).length ((List.range (cR x).length).map fun i=>set.getD i false) else List.replicate (cR x).length false
def jh (w:Wk) (i:Nat) (p:Pr) (n:ByteArray):Wk :=
 bif decide (af (bG w.c.queues n).holds p=aw (w.pc i).led.entries n) then w else
 w.setP i { w.pc i with led:=(ij (w.pc i).led ⟨n,aw (w.pc i).led.entries n,af (bG w.c.queues n).holds p⟩).1 }
def dB (x:Pc) (i:Nat):List Tm->List Bool->Wk->Wk
 | a :: l,b :: bs,w=>dB x i l bs (bif b then jh w i x.proc a.name else cg w x a.name)
 | _,_,w=>w
def lC (w:Wk) (i:Nat):Wk :=
 bi (fh (dB (w.pc i) i (cR (w.pc i).req.expr) (dj (w.pc i).req.expr (bN w.c.queues (w.pc i).proc (w.pc i).req.expr)) (w.note 2 (w.pc i).proc)) i) i
def be:Nat->Wk->Wk
 | 0,w=>w
 | n+1,w=>match fG w.c.queues 0 w.c.procs with
  | none=>w
  | some i=>be n (lC w i)
def bQ (w:Wk):Wk:=be w.c.procs.length w
def ib (w:Wk) (i:Nat):Wk :=
 bQ (Wk.note ⟨{ w.c with queues:=(bM w.c.queues (w.pc i).proc).1,procs:=w.c.procs.eraseIdx i },w.ev++(bM w.c.queues (w.pc i).proc).2⟩ 5 (w.pc i).proc)
def jK (now:Int):Nat->List Pc->Int×Int->Int×Int
 | _,[],b=>b
 | k,x :: l,b=>jK now (k+1) l (bif x.waiting && !decide (x.req.limit=0) && decide (x.since+x.req.limit<=now) && (decide (b.1<0) || decide (x.since+x.req.limit<b.2)) then ((k:Int),x.since+x.req.limit) else b)
def d9 (w:Wk):Int:=(jK w.c.now 0 w.c.procs (-1,0)).1
def pn (x:Pc):List Pc->List Pc
 | []=>[x]
 | y :: l=>bif decide (0<bH y.proc x.proc) then x :: y :: l else y :: pn x l
def nK (w:Wk) (p:Pr) (cost:Int):Wk×Int :=
 bif !(gm p && decide (1<=cost) && decide (cost<=1000)) then (w,1) else bif decide (0<=d8 p 0 w.c.procs) then (w,11) else bif decide (w.c.procs.length=8) then (w,4) else
 (⟨{ w.c with procs:=pn { Kc with proc:=p,cost:=cost } w.c.procs },w.ev⟩,0)
def dC (p:Pr) (prio:Int):List Tm->Wk->Wk
 | [],w=>w
 | a :: l,w=>dC p prio l (w.take (b9 w.c.queues p a prio).1 (b9 w.c.queues p a prio).2.1)
def cQ (w:Wk) (i:Nat) (r:Rq):Wk×Int :=
 bif (w.pc i).waiting then (w,14) else bif !qW r then (w,1) else bif !decide (iK w.c.queues r.expr=0) then (w,iK w.c.queues r.expr) else
 (bQ (dC (w.pc i).proc r.prio (cR r.expr) (bi (w.setP i { w.pc i with waiting:=true,req:=r,since:=w.c.now }) i)),0)
def eQ (w:Wk) (i:Nat) (n:ByteArray):Wk×Int :=
 bif (w.pc i).waiting then (w,14) else bif decide (aw (w.pc i).led.entries n=⟨0,0⟩) then (w,10) else
 let w1:=fK w (w.pc i).proc ⟨n,⟨0,0⟩⟩
 (bQ (bi (w1.setP i { w1.pc i with led:=(mi (w1.pc i).led n).1 }) i),0)
def cz (p:Pr):List Tm->Wk->Wk
 | [],w=>w
 | a :: l,w=>cz p l (di w p a.name a.am)
def cu (w:Wk) (i:Nat) (n:Int):Wk×Int :=
 bif !decide ((cd (w.pc i).led n).2.2=0) then (w,(cd (w.pc i).led n).2.2) else
 let w1:=bif (w.pc i).waiting then aC w i else w
 let w2:=w1.setP i { w1.pc i with led:=(cd (w.pc i).led n).1 }
 (bQ (bi (cz (w.pc i).proc (cd (w.pc i).led n).2.1 w2) i),0)
def gR:Nat->Wk->Wk
 | 0,w=>w
 | n+1,w=>bif decide (d9 w<0) then w else
  gR n (bQ (bi (aC (w.note 4 (w.pc (d9 w).toNat).proc) (d9 w).toNat) (d9 w).toNat))
def jL (w:Wk) (n:Int):Wk×Int :=
 bif !(decide (0<=n) && decide (n<=1000)) then (w,1) else bif decide (1073741824-n<w.c.now) then (w,16) else (gR w.c.procs.length ⟨{ w.c with now:=w.c.now+n },w.ev⟩,0)
def wD (w:Wk) (k:Cm):Wk×Int :=
 bif !(decide (1<=k.kind) && decide (k.kind<=9)) then (w,1) else bif decide (k.kind=1) then nK w k.proc k.n else bif decide (k.kind=9) then jL w k.n else
 bif decide (d8 k.proc 0 w.c.procs<0) then (w,10) else
 let i:=(d8 k.proc 0 w.c.procs).toNat
 bif decide (k.kind=2) then cQ w i k.req else
 bif decide (k.kind=3) then (bif !(w.pc i).waiting then (w,14) else (bQ (bi (aC w i) i),0)) else
 bif decide (k.kind=4) then eQ w i k.name else
 bif decide (k.kind=5) then (bif (w.pc i).waiting then (w,14) else bif !decide ((iH (w.pc i).led k.n).2=0) then (w,(iH (w.pc i).led k.n).2) else (bi (w.setP i { w.pc i with led:=(iH (w.pc i).led k.n).1 }) i,0)) else
 bif decide (k.kind=6) then cu w i k.n else
 bif decide (k.kind=8) && (w.pc i).waiting then (w,14) else (ib w i,0)
def nL (c:Cs) (k:Cm):Cs×List Ev×Int :=
 bif !dA c then (P0,[],2) else bif !decide ((wD ⟨c,[]⟩ k).2=0) then (P0,[],(wD ⟨c,[]⟩ k).2) else ((wD ⟨c,[]⟩ k).1.c,(wD ⟨c,[]⟩ k).1.ev,0)
def En.cells (x:En):List Value:=[.string x.name,.int .i64 x.before.mode,.int .i64 x.before.units,.int .i64 x.after.mode,.int .i64 x.after.units]
def Sv.cells (x:Sv):List Value:=[.int .i64 x.label,.int .i64 x.at_]
def Ev.cells (x:Ev):List Value:=[.int .i64 x.kind,.int .i64 x.proc.site,.int .i64 x.proc.inc,.int .i64 x.proc.num,.string x.name,.int .i64 x.am.mode,.int .i64 x.am.units]
def jp:El En:=El.plain 5 (by decide) En.cells (fun _=>rfl) (by intro x u hu;simp [En.cells] at hu;rcases hu with rfl|rfl|rfl|rfl|rfl <;> rfl)
def ji:El Sv:=El.plain 2 (by decide) Sv.cells (fun _=>rfl) (by intro x u hu;simp [Sv.cells] at hu;rcases hu with rfl|rfl <;> rfl)
def sR:El Ev:=El.plain 7 (by decide) Ev.cells (fun _=>rfl) (by intro x u hu;simp [Ev.cells] at hu;rcases hu with rfl|rfl|rfl|rfl|rfl|rfl|rfl <;> rfl)
theorem P9:ElTB prog jp 116 200 48:=ElTB.mk' underlying116 (.agg #[.string { data:=#[] },.int .i64 0,.int .i64 0,.int .i64 0,.int .i64 0]) 5 48 (by kernel_rfl) rfl rfl
theorem Qa:ElTB prog ji 117 197 16:=ElTB.mk' underlying117 (.agg #[.int .i64 0,.int .i64 0]) 2 16 (by kernel_rfl) rfl rfl
theorem Qb:ElTB prog sR 88 355 64:=ElTB.mk' underlying88 (.agg #[.int .i64 0,.int .i64 0,.int .i64 0,.int .i64 0,.string { data:=#[] },.int .i64 0,.int .i64 0]) 7 64 (by kernel_rfl) rfl rfl
section
variable {w:World} {S:Nat->Prop} {A:Option Addr} {i:Nat}
end
structure QS (w:World) (S:Nat->Prop) (A1 A2 A3:Option Addr) (q:Qu):Prop where
 r1:RowsAt g8 w S A1 q.holds
 r2:RowsAt gc w S A2 q.convs
 r3:RowsAt gc w S A3 q.waits
 m1:q.holds.length<=maxLen
 m2:q.convs.length<=maxLen
 m3:q.waits.length<=maxLen
section
variable {w w':World} {S S':Nat->Prop} {A1 A2 A3:Option Addr} {q:Qu}
theorem QS.qf (h:QS w S A1 A2 A3 q) (hS:In w S):QF w w.heap.size A1 A2 A3 q:=⟨h.r1.lo hS,h.r2.lo hS,h.r3.lo hS,h.m1,h.m2,h.m3,Nat.le_refl _⟩
end
def wS (d:Nat):El Pc where
 n:=16
 pos:=by decide
 rep:=fun w S x cs=>∃A1 c1 A2 c2 A3 c3,cs=[.int .i64 x.proc.site,.int .i64 x.proc.inc,.int .i64 x.proc.num,.int .i64 x.cost,.slice A1 x.led.entries.length c1,.slice A2 x.led.saves.length c2,.bool x.waiting,.int .i64 x.req.expr.k,.string x.req.expr.atom.name,.int .i64 x.req.expr.atom.am.mode,.int .i64 x.req.expr.atom.am.units,.slice A3 x.req.expr.kids.length c3,.int .i64 x.req.prio,.int .i64 x.req.limit,.int .i64 x.since,.int .i64 x.gen]/\
  RowsAt jp w S A1 x.led.entries/\(x.led.entries.length<=c1/\c1<=maxLen)/\RowsAt ji w S A2 x.led.saves/\(x.led.saves.length<=c2/\c2<=maxLen)/\RowsAt (qF d) w S A3 x.req.expr.kids/\(x.req.expr.kids.length<=c3/\c3<=maxLen)
 len:=fun h=>by obtain ⟨A1,c1,A2,c2,A3,c3,rfl,_⟩:=h;rfl
 one:=fun h=>by obtain ⟨A1,c1,A2,c2,A3,c3,rfl,_⟩:=h;intro u hu;simp at hu;rcases hu with rfl|rfl|rfl|rfl|rfl|rfl|rfl|rfl|rfl|rfl|rfl|rfl|rfl|rfl|rfl|rfl <;> rfl
 same:=fun h hk hS=>by
  obtain ⟨A1,c1,A2,c2,A3,c3,e,h1,h2,h3,h4,h5,h6⟩:=h;exact ⟨A1,c1,A2,c2,A3,c3,e,h1.same hk hS,h2,h3.same hk hS,h4,h5.same hk hS,h6⟩
theorem Np (l:List Value) (k:Nat):(l.map D.sc).any (D.has k)=false:=by
 induction l with
 | nil=>rfl
 | cons x l ih=>simp only [List.map_cons,List.any_cons,ih,D.has,Bool.or_self]
theorem Ia {w:World} {F:Nat->Prop} {ρ:Nat->Value}:∀{l vs:List Value},All2 (D.rep w F ρ) (l.map .sc) vs->vs=l
 | [],[],_=>rfl
 | _ :: _,_ :: _,h=>by rw [show _=_ from h.1,Ia h.2]
 | [],_ :: _,h=>h.elim
 | _ :: _,[],h=>h.elim
@[reducible] def fb {α:Type} (n:Nat) (pos:0<n) (f:α->List Value) (len:∀x,(f x).length=n) (one:∀x,∀u∈f x,u.oneCell'=true):Dp (El.plain n pos f len one) where
 deep:=fun x=>(f x).map .sc
 get:=fun h=>by rw [show _=_ from h];exact All2.scs _
 put:=fun h=>Ia h
 nok:=fun x k=>Np (f x) k
instance:Dp eh:=fb _ _ _ _ _
instance:Dp E8:=fb _ _ _ _ _
instance:Dp da:=fb _ _ _ _ _
instance:Dp g8:=fb _ _ _ _ _
instance:Dp gc:=fb _ _ _ _ _
instance:Dp jp:=fb _ _ _ _ _
instance:Dp ji:=fb _ _ _ _ _
instance:Dp sR:=fb _ _ _ _ _
instance:ST prog g8 75 223 40:=⟨MT⟩
instance:ST prog gc 76 154 56:=⟨GQ⟩
instance:ST prog jp 116 200 48:=⟨P9⟩
instance:ST prog ji 117 197 16:=⟨Qa⟩
instance:ST prog sR 88 355 64:=⟨Qb⟩
instance:ST prog da 44 63 32:=⟨P2⟩
def Pc.d (d:Nat) (x:Pc):List D:=[.sc (.int .i64 x.proc.site),.sc (.int .i64 x.proc.inc),.sc (.int .i64 x.proc.num),.sc (.int .i64 x.cost),.sl jp x.led.entries,.sl ji x.led.saves,.sc (.bool x.waiting),.sc (.int .i64 x.req.expr.k),.sc (.string x.req.expr.atom.name),.sc (.int .i64 x.req.expr.atom.am.mode),.sc (.int .i64 x.req.expr.atom.am.units),.sl (qF d) x.req.expr.kids,.sc (.int .i64 x.req.prio),.sc (.int .i64 x.req.limit),.sc (.int .i64 x.since),.sc (.int .i64 x.gen)]
instance (d:Nat):Dp (wS d) where
 deep:=Pc.d d
 get:=by
  rintro w F ρ x cs ⟨A1,c1,A2,c2,A3,c3,rfl,h1,h2,h3,h4,h5,h6⟩;exact ⟨rfl,rfl,rfl,rfl,⟨A1,c1,rfl,h2,h1⟩,⟨A2,c2,rfl,h4,h3⟩,rfl,rfl,rfl,rfl,rfl,⟨A3,c3,rfl,h6,h5⟩,rfl,rfl,rfl,rfl,trivial⟩
 put:=by
  intro w F ρ x cs h
  match cs,h with
  | [_,_,_,_,_,_,_,_,_,_,_,_,_,_,_,_],⟨rfl,rfl,rfl,rfl,⟨A1,c1,rfl,h2,h1⟩,⟨A2,c2,rfl,h4,h3⟩,rfl,rfl,rfl,rfl,rfl,⟨A3,c3,rfl,h6,h5⟩,rfl,rfl,rfl,rfl,_⟩=>exact ⟨A1,c1,A2,c2,A3,c3,rfl,h1,h2,h3,h4,h5,h6⟩
 nok:=fun _ _=>rfl
theorem gS {P:Program} {f:FuncId} {args:List V0} {res:TV} (hen:∀(vs:Array Value) (w:World),(callFunc f vs).run P w = .ok (.enter f vs) w) (hok:Ca args [] [] res []=true)
  (h:∀(w:World) (S:Nat->Prop) (ρ:Nat->Value) (vs:List Value),PinW w (fun _=>False)->In w S->All2 (V0.rep w S ρ) args vs->Calls P f vs.toArray w fun e w'=>∃v,e = .returned v/\Below w.heap.size w w'/\res.rep w' (Gr S w.heap.size w') ρ v):FSpec P f args [] [] res []:=by
 refine ⟨hen,fun q c st ρ a w vs hr _ hargs _ _=>?_⟩;simp only [Ca,qBa] at hok;obtain ⟨⟨⟨⟨⟨⟨o1,_⟩,_⟩,_⟩,_⟩,o6⟩,_⟩:=hok;have hnok:∀d∈args,∀k,d.has k=true->False:=fun d hd k hk=>by have:=V0.in_has (List.all_eq_true.1 o1 d hd) hk;simp [aq,aI] at this
 have hnor:∀k,res.has k=true->False:=fun k hk=>by have:=TV.in_has o6 hk;simp [aq,aI] at this
 have hargs':All2 (V0.rep w (Fz c st.h ρ w) ρ) args vs:=hargs.imp fun d v hd h1=>(V0.rep_ren (ρ':=ρ) fun k hk=>(hnok d hd k hk).elim).1 h1;refine (h w (Fz c st.h ρ w) ρ vs hr.pin (fun b hb=>hb.2.1) hargs').mono ?_;rintro e w' ⟨v,rfl,hb,hv⟩;refine ⟨v,rfl,fun dst hdst=>⟨ρ,hr.app (e:=⟨res.ren q,fC q [],[].map q⟩) hdst (fun k hk=>by simp [aI] at hk) (fun _ _=>rfl) (fun k hk=>by simp [fC,aF] at hk) (Frx.below hb) (fun k bx g hk=>by simp [fC,aF] at hk) (fun k k' b b' g hk=>by simp [fC,aF] at hk) (fun k hk=>?_) (fun k k' bx hk=>by simp [fC,aF] at hk) (fun k bx hk=>by simp [fC,aF] at hk) ?_⟩⟩
 ·obtain ⟨k',hk',_⟩:=TV.has_ren hk;exact (hnor k' hk').elim
 ·refine ((TV.rep_ren (ρ':=ρ) fun k hk=>(hnor k hk).elim).2 hv).mono (fun b hb2=>⟨⟨?_,hb2.1,fun k bx hk he=>?_⟩,rfl⟩) fun _ _=>rfl
  ·rcases hb2.2 with h1|h1
   ·exact h1.1
   ·exact .inr (Nat.le_trans hr.frm.size h1)
  ·have hk:st.h k=some bx:=hk;rcases hb2.2 with h1|h1
   ·exact h1.2.2 k bx hk he
   ·have:=hr.ltb hk he;omega
theorem D4 {w:World} {F:Nat->Prop} {ρ:Nat->Value} {ds:List D} {l:List Value} {v:Value} (hs:scs ds=some l) (h:(V0.ag ds).rep w F ρ v):v = .agg l.toArray:=by
 obtain ⟨vs,rfl,h1⟩:=h;rw [jE hs h1]
theorem jb {w w':World} {S:Nat->Prop} {ρ:Nat->Value} {v:Value} {e:Ending} (h:xc w v e w'):∃u,e = .returned u/\Below w.heap.size w w'/\(TV.c (.sc v)).rep w' (Gr S w.heap.size w') ρ u:=⟨v,h.1,h.2,rfl⟩
theorem gT {w w':World} {S:Nat->Prop} {ρ:Nat->Value} {α:Type} {t:TypeId} {l:List α} {e:Ending} {n:Nat} {pos:0<n} {f:α->List Value} {len:∀x,(f x).length=n} {one:∀x,∀u∈f x,u.oneCell'=true} (h:iz (El.plain n pos f len one) t w l e w') :
  ∃u,e = .returned u/\Below w.heap.size w w'/\(TV.c (.sl (El.plain n pos f len one) l)).rep w' (Gr S w.heap.size w') ρ u:=by
 obtain ⟨v,rfl,hown,hb⟩:=h;obtain ⟨A,cap,rfl,hr,h1,h2⟩:=OwnRows.nw hown;exact ⟨_,rfl,hb,A,cap,rfl,⟨h1,h2⟩,hr.grNew⟩
def D.okb:D->Bool
 | .sc x=>x.oneCell'
 | .sl ..=>true
 | _=>false
theorem D.okb_has {d:D} (h:d.okb=true) (k:Nat):d.has k=false:=by cases d <;> first|rfl|cases h
theorem D.okb_one {w:World} {F:Nat->Prop} {ρ:Nat->Value} {d:D} {v:Value} (h:d.okb=true) (hd:d.rep w F ρ v):v.oneCell'=true:=by
 cases d with
 | sc x=>have hd:v=x:=hd;rw [hd];exact h
 | sl E l=>obtain ⟨A,cap,rfl,_⟩:=hd;rfl
 | _=>cases h
def El.ofD {α:Type} (n:Nat) (pos:0<n) (f:α->List D) (len:∀x,(f x).length=n) (ok:∀x,(f x).all D.okb=true):El α where
 n:=n
 pos:=pos
 rep:=fun w S x cs=>All2 (D.rep w S fun _=>undef) (f x) cs
 len:=fun h=>by rw [<-h.length,len]
 one:=fun {w S x cs} h=>uN h fun d hd u hu=>D.okb_one (List.all_eq_true.1 (ok x) d hd) hu
 same:=fun {w w' S S' x cs} h hk hS=>h.imp fun d v hd h1=>D.rep.mono h1 (fun b hb=>⟨hS b hb,hk b hb⟩) fun _ _=>rfl
@[reducible] def QU {α:Type} (n:Nat) (pos:0<n) (f:α->List D) (len:∀x,(f x).length=n) (ok:∀x,(f x).all D.okb=true):Dp (El.ofD n pos f len ok) where
 deep:=f
 get:=fun {w F ρ x cs} h=>All2.imp (R:=D.rep w F fun _=>undef) h fun d v hd h1=>D.rep.mono h1 (fun b hb=>⟨hb,rfl⟩) fun k hk=>by rw [D.okb_has (List.all_eq_true.1 (ok x) d hd) k] at hk;cases hk
 put:=fun {w F ρ x cs} h=>h.imp fun d v hd h1=>D.rep.mono h1 (fun b hb=>⟨hb,rfl⟩) fun k hk=>by rw [D.okb_has (List.all_eq_true.1 (ok x) d hd) k] at hk;cases hk
 nok:=fun x k=>by
  rw [Bool.eq_false_iff];intro h;obtain ⟨d,hd,h1⟩:=List.any_eq_true.1 h;rw [D.okb_has (List.all_eq_true.1 (ok x) d hd) k] at h1;cases h1
theorem bD {P:Program} {f:FuncId} {args:List V0} {res:TV} (hen:∀(vs:Array Value) (w:World),(callFunc f vs).run P w = .ok (.enter f vs) w) (hok:Ca args [] [] res []=true)
  (h:∀(w:World) (S:Nat->Prop) (ρ:Nat->Value) (vs:List Value),In w S->All2 (V0.rep w S ρ) args vs->Calls P f vs.toArray w fun e w'=>∃v,e = .returned v/\Below w.heap.size w w'/\res.rep w' (Gr S w.heap.size w') ρ v):FSpec P f args [] [] res [] :=
 gS hen hok fun w S ρ vs _ hS ha=>h w S ρ vs hS ha
def Pr.a (p:Pr):V0:=.ag [.sc (.int .i64 p.site),.sc (.int .i64 p.inc),.sc (.int .i64 p.num)]
def Am.a (x:Am):V0:=.ag [.sc (.int .i64 x.mode),.sc (.int .i64 x.units)]
def Tm.a (x:Tm):V0:=.ag [.sc (.string x.name),.sc (.int .i64 x.am.mode),.sc (.int .i64 x.am.units)]
def Rs.a (r:Rs):V0:=.ag [.sc (.string r.name),.sc (.int .i64 r.kind),.sc (.int .i64 r.units),.sc (.int .i64 r.home)]
def Qu.d (q:Qu):List D:=[.sc (.string q.res.name),.sc (.int .i64 q.res.kind),.sc (.int .i64 q.res.units),.sc (.int .i64 q.res.home),.sl g8 q.holds,.sl gc q.convs,.sl gc q.waits,.sc (.int .i64 q.gen)]
def Qu.a (q:Qu):V0:=.ag q.d
def ic:El Qu:=El.ofD 8 (by decide) Qu.d (fun _=>rfl) fun _=>rfl
instance:Dp ic:=QU _ _ _ _ _
def Ex.d (d:Nat) (x:Ex):List D:=[.sc (.int .i64 x.k),.sc (.string x.atom.name),.sc (.int .i64 x.atom.am.mode),.sc (.int .i64 x.atom.am.units),.sl (qF d) x.kids]
def Ex.a (d:Nat) (x:Ex):V0:=.ag (x.d d)
def Lg.a (l:Lg):V0:=.ag [.sl jp l.entries,.sl ji l.saves]
def Pc.a (d:Nat) (x:Pc):V0:=.ag (x.d d)
def En.a (x:En):V0:=.ag [.sc (.string x.name),.sc (.int .i64 x.before.mode),.sc (.int .i64 x.before.units),.sc (.int .i64 x.after.mode),.sc (.int .i64 x.after.units)]
def Rq.d (d:Nat) (r:Rq):List D:=[.sc (.int .i64 r.expr.k),.sc (.string r.expr.atom.name),.sc (.int .i64 r.expr.atom.am.mode),.sc (.int .i64 r.expr.atom.am.units),.sl (qF d) r.expr.kids,.sc (.int .i64 r.prio),.sc (.int .i64 r.limit)]
def Rq.a (d:Nat) (r:Rq):V0:=.ag (r.d d)
section
variable {w:World} {S:Nat->Prop} {ρ:Nat->Value} {v:Value}
theorem Pr.open {p:Pr} (h:p.a.rep w S ρ v):v=p.val:=D4 rfl h
theorem Rs.open {p:Rs} (h:p.a.rep w S ρ v):v=p.val:=D4 rfl h
theorem Qu.open {q:Qu} (h:q.a.rep w S ρ v):∃A1 A2 A3 c1 c2 c3,v=q.val A1 A2 A3 c1 c2 c3/\QS w S A1 A2 A3 q/\(q.holds.length<=c1/\c1<=maxLen)/\(q.convs.length<=c2/\c2<=maxLen)/\(q.waits.length<=c3/\c3<=maxLen):=by
 obtain ⟨cs,rfl,h⟩:=h
 match cs,h with
 | [_,_,_,_,_,_,_,_],⟨rfl,rfl,rfl,rfl,⟨A1,c1,rfl,h1,r1⟩,⟨A2,c2,rfl,h2,r2⟩,⟨A3,c3,rfl,h3,r3⟩,rfl,_⟩ =>
  exact ⟨A1,A2,A3,c1,c2,c3,rfl,⟨r1,r2,r3,Nat.le_trans h1.1 h1.2,Nat.le_trans h2.1 h2.2,Nat.le_trans h3.1 h3.2⟩,h1,h2,h3⟩
end
section
variable {P:Program} {nt:Nat} {Ks:List Nat} {Q:Exit->Mst->Prop} {s:Mst} {K:Mst->Prop} {ops:Array Oper} {draw:Bool} {o:Oper} {l:List Oper} {acc:List (List Nat×List Nat)} {x:Code} {R us:List Nat} {e:Mef} {t:Nat} {d:TV} {hs:List (Nat×Option Box)}
structure LO (P:Program) (o:Oper) (s:Mst) (R:List Nat) (e:Mef):Prop where
 h:LOp P o s R e
theorem lk (n:Nat) (_:QI o.op=n) (h:LOp P o s R e):LO P o s R e:=⟨h⟩
theorem QJ (he:LO P o s R ⟨d,hs,us⟩:=by first|(apply lk 1 rfl;first|exact Hn rfl rfl|exact Cx rfl rfl)|(apply lk 2 rfl;exact Cw rfl rfl)|(apply lk 3 rfl;first|exact Hq rfl rfl rfl rfl|exact yI rfl rfl rfl rfl (qNl rfl)|exact Cy rfl rfl (by first|assumption|exact qGg (by omega)) rfl|exact uD rfl rfl (by first|assumption|exact qGg (by omega)) rfl (qNl rfl)|exact Cz rfl rfl rfl rfl (by first|assumption|exact qGg (by omega)) rfl|exact uE rfl rfl rfl rfl (by first|assumption|exact qGg (by omega)) rfl (qNl rfl))|(apply lk 5 rfl;first|exact Ft rfl rfl|exact z6 rfl rfl|exact z7 rfl rfl)|(apply lk 6 rfl;first|exact sS rfl rfl rfl rfl rfl rfl (by omega)|exact xv rfl rfl rfl rfl rfl (by omega)|exact sE rfl rfl rfl rfl rfl rfl (by omega)|exact AD rfl rfl rfl rfl (by omega) (by first|omega|(simp <;> omega))|exact yV rfl rfl rfl rfl rfl (by omega) (by first|omega|(simp <;> omega))|exact yW rfl rfl rfl rfl rfl (by omega) (by first|omega|(simp <;> omega)))|(apply lk 7 rfl;first|exact FT rfl rfl rfl|exact KK rfl rfl|exact Fx rfl rfl rfl|exact Fy rfl rfl)|(apply lk 8 rfl;first|exact ae rfl rfl (av rfl rfl) (CD rfl) rfl aE aE|exact ae rfl rfl (av rfl rfl) (yN rfl rfl) rfl aE aE|exact ae rfl rfl (av rfl rfl) (uJ rfl) rfl aE aE|exact ae rfl rfl (yO rfl rfl) (CD rfl) (List.nil_append _) aE aE|exact ae rfl rfl (yO rfl rfl) (yN rfl rfl) (List.nil_append _) aE aE|exact ae rfl rfl (yO rfl rfl) (uJ rfl) (List.nil_append _) aE aE|exact ae rfl rfl (tR rfl) (CD rfl) (List.nil_append _) aE aE|exact ae rfl rfl (tR rfl) (yN rfl rfl) (List.nil_append _) aE aE|exact ae rfl rfl (tR rfl) (uJ rfl) (List.nil_append _) aE aE)|(apply lk 10 rfl;first|exact Kz rfl rfl rfl (IntWalk.i64_in _ (by omega))|exact KA rfl rfl rfl (IntWalk.i64_in _ (by omega))|exact M9 rfl rfl rfl|exact Na rfl rfl rfl|exact Nb rfl rfl rfl|exact Nc rfl rfl rfl|exact M7 rfl rfl rfl|exact M8 rfl rfl rfl|exact KC rfl rfl rfl|exact KD rfl rfl rfl|exact KE rfl rfl rfl|exact KF rfl rfl rfl|exact KI rfl rfl rfl rfl rfl rfl rfl (by first|exact Mo _ _|exact xA _ _|exact xA _ ⟨0,0⟩|exact xA ⟨0,0⟩ _|exact eq_tm _ _|exact eq_tm _ lp)|exact KJ rfl rfl rfl rfl rfl rfl rfl (by first|exact congrArg _ (Mo _ _)|exact congrArg _ (xA _ _)|exact congrArg _ (xA _ ⟨0,0⟩)|exact congrArg _ (xA ⟨0,0⟩ _)|exact congrArg _ (eq_tm _ _)|exact congrArg _ (eq_tm _ lp)))|(apply lk 11 rfl;exact KH rfl rfl)|(apply lk 12 rfl;exact FD rfl rfl rfl)|(apply lk 13 rfl;exact uO rfl rfl rfl (by decide) rfl)|(apply lk 14 rfl;first|exact dl rfl rfl rfl rfl (by omega) (by first|omega|(simp <;> omega)) rfl|exact vf rfl rfl rfl rfl (by omega) (by first|omega|(simp <;> omega)) rfl)|(apply lk 15 rfl;exact sG rfl rfl rfl)|(apply lk 16 rfl;first|exact FA rfl rfl rfl|exact wQ rfl rfl rfl)|(apply lk 17 rfl;exact Fv rfl rfl rfl)|(apply lk 18 rfl;exact KP rfl rfl rfl rfl)|(apply lk 19 rfl;exact Ie rfl rfl rfl)|(apply lk 21 rfl;exact FE rfl rfl)) (hd:o.dst=some t:=by rfl) (hg:s.gd ops o=some true:=by rfl) (hf:us.all s.f=true:=by rfl):DA P ops draw l ((R,aq hs) :: acc) (s.app (some t) ⟨d,hs,us⟩) K->DA P ops draw (o :: l) acc s K:=fun h=>aK he.h hd hg hf h
theorem OK (he:LO P o s R ⟨d,hs,us⟩:=by (apply lk 4 rfl;exact Fu rfl rfl rfl rfl rfl (qNl rfl) rfl rfl)) (hd:o.dst=none:=by rfl) (hg:s.gd ops o=some true:=by rfl) (hf:us.all s.f=true:=by rfl):DA P ops draw l ((R,aq hs) :: acc) (s.app none ⟨d,hs,us⟩) K->DA P ops draw (o :: l) acc s K:=fun h=>bW he.h hd hg hf h
theorem sx (he:LOp P o s R ⟨d,hs,us⟩) (h:DA P ops draw l ((R,aq hs) :: acc) (s.app (some t) ⟨d,hs,us⟩) K) (hd:o.dst=some t:=by rfl) (hg:s.gd ops o=some true:=by rfl) (hf:us.all s.f=true:=by rfl):DA P ops draw (o :: l) acc s K:=aK he hd hg hf h
theorem Qc (he:LOp P o s R ⟨d,hs,us⟩) (h:DA P ops draw l ((R,aq hs) :: acc) (s.app none ⟨d,hs,us⟩) K) (hd:o.dst=none:=by rfl) (hg:s.gd ops o=some true:=by rfl) (hf:us.all s.f=true:=by rfl):DA P ops draw (o :: l) acc s K:=bW he hd hg hf h
structure HbI (p q:Prop):Prop where
 h:p->q
def Oz (_:Bool):Prop:=True
theorem Nq:Oz true:=trivial
theorem Nr:Oz false:=trivial
theorem Ns {j t:Nat} {want b:Bool} (h1:HbI (b=true) (DA P ops draw (o :: l) acc (s.app (some t) ⟨.b true,[],[]⟩) K)) (h2:HbI (b=false) (DA P ops draw (o :: l) acc (s.app (some t) ⟨.b false,[],[]⟩) K)) (hg:o.guard=some (j,want):=by rfl) (hj:(ops[j]?).bind (·.dst)=some t:=by rfl) (ht:s.t t = .b b:=by rfl) (_:Oz b:=by (fail_if_success (with_reducible exact Nq));(fail_if_success (with_reducible exact Nr));exact trivial):DA P ops draw (o :: l) acc s K:=vh hg hj ht h1.h h2.h
theorem Nt {x:Operand} {u e:Code} {b:Bool} (h1:HbI (b=true) (AW P nt Ks u Q s)) (h2:HbI (b=false) (AW P nt Ks e Q s)) (hx:s.ev x = .b b:=by rfl):AW P nt Ks (.cond x u e) Q s:=yJ hx h1.h h2.h
theorem KZ {p q:Prop} (h:p->False:=by intro hb;first|(cases hb;done)|((try simp only [decide_eq_true_eq,decide_eq_false_iff_not,Bool.not_eq_true',Bool.not_eq_false',beq_iff_eq,bne_iff_ne,beq_eq_false_iff_ne,bne_eq_false_iff_eq,ne_eq,Decidable.not_not] at hb);first|contradiction|exact Bool.noConfusion (hb.symm.trans (by assumption):false=true)|exact Bool.noConfusion (hb.symm.trans (by assumption):true=false)|omega)):HbI p q:=⟨fun hp=>(h hp).elim⟩
theorem ax {p r q:Prop} (h:r->q) (hq:p->r:=by intro hb;(try simp only [decide_eq_true_eq,decide_eq_false_iff_not,Bool.not_eq_true',Bool.not_eq_false',beq_iff_eq,bne_iff_ne,beq_eq_false_iff_ne,bne_eq_false_iff_eq,ne_eq,Decidable.not_not] at hb);exact hb):HbI p q:=⟨fun hp=>h (hq hp)⟩
def If (ops:Array Oper) (fps:List (List Nat×List Nat)) (listed:Array Bool) (k:Nat):Bool :=
 match ops[k]? with
 | none=>false
 | some o=>(List.range ops.size).all fun j=>j == k || listed.getD j true || ((match ops[j]? with|none=>true|some o'=>o.apart ops o' && Ow (n4 fps k) (n4 fps j)) || Ku ops 6 k j)
theorem Ig (ops:Array Oper) (fps:List (List Nat×List Nat)) (listed:Array Bool) (k:Nat):If ops fps listed k=yE ops fps listed k:=by
 unfold If yE;cases ops[k]? with
 | none=>rfl
 | some o =>
  dsimp only;congr 1
  funext j
  rw [Bool.or_comm _ (Ku ops 6 k j),Bool.or_assoc (j == k || listed.getD j true)];cases ops[j]? <;> rfl
def K0 (ops:Array Oper) (fps:List (List Nat×List Nat)):Nat->Nat->Array Bool->Bool
 | 0,_,listed=>(Region.ready .any ops listed).isEmpty
 | fuel+1,k,listed=>(Region.ready .any ops listed).contains k && If ops fps listed k && K0 ops fps fuel (k+1) (listed.setIfInBounds k true)
theorem D6 {ops:Array Oper} {fps:List (List Nat×List Nat)}:∀{n k:Nat} {listed:Array Bool},K0 ops fps n k listed=oV ops fps n k listed
 | 0,_,_=>rfl
 | n+1,k,listed=>by
  unfold K0 oV;rw [Ig,D6]
theorem OL {acc:List (List Nat×List Nat)} (hB:K0 ops acc.reverse ops.size 0 (Array.replicate ops.size false)=true:=by kernel_rfl):K s->DA P ops true [] acc s K:=KM (D6▸hB)
theorem OM {id:Nat} {l:List Oper} {y:Code} (hnt:fW nt l=true:=by kernel_rfl):(DA P l.toArray false l [] s fun s'=>AW P nt Ks y Q s')->AW P nt Ks (.seq (.region id l.toArray false) y) Q s:=OH hnt
theorem ON {id:Nat} {l:List Oper} {y:Code} (hm:P.follows .mixedOrders=true:=by kernel_rfl) (hnt:fW nt l=true:=by kernel_rfl):(DA P l.toArray true l [] s fun s'=>AW P nt Ks y Q s')->AW P nt Ks (.seq (.region id l.toArray true) y) Q s:=Ng hm hnt
theorem QK {id:Nat} {l:List Oper} (hnt:fW nt l=true:=by kernel_rfl):(DA P l.toArray false l [] s fun s'=>Q .normal s')->AW P nt Ks (.region id l.toArray false) Q s:=OG hnt
theorem QL {id:Nat} {l:List Oper} (hm:P.follows .mixedOrders=true:=by kernel_rfl) (hnt:fW nt l=true:=by kernel_rfl):(DA P l.toArray true l [] s fun s'=>Q .normal s')->AW P nt Ks (.region id l.toArray true) Q s:=Mm hm hnt
structure QE (e:Exit) (Q:Exit->Mst->Prop) (F:Mst->Prop):Prop where
 h:∀s,F s->Q e s
section
variable {Q':Exit->Mst->Prop} {F K':Mst->Prop} {i j:Nat} {fn:Func} {hin:List (Nat×Box)} {res:TV} {hout:List (Nat×Option Box)}
theorem OO (h:QE .ret Q' F):QE .ret (mb K' Q') F:=⟨h.h⟩
theorem OP (h:QE .ret Q' F):QE .ret (fX i Q') F:=⟨h.h⟩
theorem OQ:QE .ret (sF P fn hin res hout) (sF P fn hin res hout .ret):=⟨fun _ h=>h⟩
theorem OR (h:QE (.exit j) Q' F):QE (.exit j) (mb K' Q') F:=⟨h.h⟩
theorem OS (h:QE .normal Q' F):QE (.exit i) (fX i Q') F:=⟨fun s hs=>P6 (h.h s hs)⟩
theorem OT (hj:j.beq i=false) (h:QE (.exit j) Q' F):QE (.exit j) (fX i Q') F:=⟨fun s hs=>P7 hj (h.h s hs)⟩
theorem OU:QE .normal (mb K' Q') K':=⟨fun _ h=>h⟩
theorem OV (h:QE .normal Q' F):QE .normal (fX i Q') F:=⟨h.h⟩
theorem OW:QE .normal (sF P fn hin res hout) (sF P fn hin res hout .normal):=⟨fun _ h=>h⟩
theorem qe {e:Exit} (h:QE e Q' F:=by repeat' (first|(with_reducible exact OU)|(with_reducible exact OQ)|(with_reducible exact OW)|(with_reducible apply OO)|(with_reducible apply OP)|(with_reducible apply OR)|(with_reducible apply OS)|(with_reducible apply OV)|(with_reducible apply OT)|(show Nat.beq _ _=false;decide))):QE e Q' F:=h
theorem qx {e:Exit} (h:F s) (hq:QE e (mb K' Q') F:=by exact qe):mb K' Q' e s:=hq.h s h
theorem qy {e:Exit} (h:F s) (hq:QE e (fX i Q') F:=by exact qe):fX i Q' e s:=hq.h s h
end
theorem Ih {q1:Option Tmp} {q2:Op} {q3:TypeId} {q4:String} {q5:Array Edge} {q6:Nat×Bool} (h:DA P ops draw (⟨q1,q2,q3,q4,q5,some q6⟩ :: l) acc s K):DA P ops draw (⟨q1,q2,q3,q4,q5,some q6⟩ :: l) acc s K:=h
theorem OX {K':Mst->Prop} {Q':Exit->Mst->Prop} {e:Exit} (h:mb K' Q' e s):mb K' Q' e s:=h
theorem OY {i:Nat} {Q':Exit->Mst->Prop} {e:Exit} (h:fX i Q' e s):fX i Q' e s:=h
theorem Qd {p q:Prop} (h:HbI p q):HbI p q:=h
theorem Ii {y:Operand} {u v:Code} (h:AW P nt Ks (.cond y u v) Q s):AW P nt Ks (.cond y u v) Q s:=h
theorem ay {g g':Prop} (h:g') (hs:g'->g:=by intro h;first|((with_reducible refine Mr ?_);revert h;first|(with_reducible exact HD)|(with_reducible exact OL)|exact DU rfl rfl|exact QJ|exact OK)|((with_reducible refine D5 ?_);revert h;first|(with_reducible exact OM)|(with_reducible exact ON)|(with_reducible exact uF)|(with_reducible exact Ab)|(with_reducible exact Ht)|(with_reducible exact DS)|(with_reducible exact DQ)|(with_reducible exact QK)|(with_reducible exact QL))|((with_reducible refine OX ?_);exact qx h)|((with_reducible refine OY ?_);exact qy h)):g:=hs h
theorem az {g g1 g2:Prop} (h1:g1) (h2:g2) (hs:g1->g2->g:=by intro h1 h2;first|((with_reducible refine Ih ?_);exact Ns h1 h2)|((with_reducible refine Ii ?_);exact Nt h1 h2)):g:=hs h1 h2
theorem aA {g:Prop} (hs:g:=by (with_reducible refine Qd ?_);exact KZ):g:=hs
end
section
variable {P:Program} {nt:Nat} {Ks:List Nat} {s:Mst} {K:Mst->Prop} {ops:Array Oper} {draw:Bool} {o:Oper} {l:List Oper} {acc:List (List Nat×List Nat)} {t:Nat}
theorem a8 {U:List Nat} {ts:List (Nat×TV)} {hs:List (Nat×Box)} (q:Nat->Nat) (hok:M6 U ts hs q Ks=true:=by rfl) (ht:Kx s q (fun j=>∀k,gg hs k≠none->q k≠j) ts:=by repeat' (first|exact trivial|exact ke rfl|exact ke (congrArg TV.i (by omega))|exact ⟨_,rfl,gO rfl⟩|exact fD rfl|exact .any _|exact .froz _ _ _ _ rfl (tP rfl)|exact .frozc _ _ _ _ rfl (tP rfl)|exact .ocut _ _ _ _ rfl|exact .nil _|exact .full _ _|refine .v ?_|refine .one ?_|refine .ag ?_|refine ⟨_,rfl,?_⟩|refine ⟨?_,?_⟩|refine .box _ ?_)) (hh:Ky s q (fun j=>∀k,gg hs k≠none->q k≠j) hs:=by repeat' (first|exact trivial|exact ke rfl|exact ke (congrArg TV.i (by omega))|exact ⟨_,rfl,gO rfl⟩|exact fD rfl|exact .any _|exact .froz _ _ _ _ rfl (tP rfl)|exact .frozc _ _ _ _ rfl (tP rfl)|exact .ocut _ _ _ _ rfl|exact .nil _|exact .full _ _|refine .v ?_|refine .one ?_|refine .ag ?_|refine ⟨_,rfl,?_⟩|refine ⟨?_,?_⟩|refine .box _ ?_)):Le nt Ks s (bC U ts hs):=Hw q hok ht hh
theorem aS {f:FuncId} {fn:Func} {code:Code} {args:List V0} {hin:List (Nat×Box)} {us:List Nat} {res:TV} {hout:List (Nat×Option Box)} (hf:P.funcs[f]? = some fn) (h:AW P fn.ntmps (aq hin) code (sF P fn hin res hout) (Ox args hin)) (hb:fn.body=some code:=by exact rfl) (hen:∀(vs:Array Value) (w:World),(callFunc f vs).run P w = .ok (.enter f vs) w:=by exact fun b W=>by kernel_rfl) (hok:Ca args hin us res hout=true:=by exact rfl) (hnt:args.length<=fn.ntmps:=by exact qNl rfl):FSpec P f args hin us res hout:=gN hf hb hen hok hnt h
theorem yY {R us:List Nat} {ot:Option Nat} {d:TV} {hs:List (Nat×Option Box)} (he:LOp P o s R ⟨d,hs,us⟩) (hd:o.dst=ot) (hg:s.gd ops o=some true) (hf:us.all s.f=true) (h:DA P ops draw l ((R,aq hs) :: acc) (s.app ot ⟨d,hs,us⟩) K):DA P ops draw (o :: l) acc s K:=by
 cases ot with
 | none=>exact bW he hd hg hf h
 | some t=>exact aK he hd hg hf h
theorem cB {f:FuncId} {xs:Array Operand} {ts:Array TypeId} {args:List V0} {ot:Option Nat} {res:TV} (R:List Nat) (hs:FSpec P f args [] [] res []) (h:DA P ops draw l ((R,aq ([]:List (Nat×Option Box))) :: acc) (s.app ot ⟨res,[],[]⟩) K) (ho:o.op = .call { callee:=.value (.func f),args:=xs,argTypes:=ts }:=by rfl) (hok:Ca args [] [] res []=true:=by rfl) (hb:res.isSc=true:=by rfl) (ha:All2 (fun x d=>AR s R (s.ev x) d) xs.toList args:=by (repeat' (first|exact trivial|exact .same _|refine ⟨⟨_,rfl,?_⟩,?_⟩|refine .ag ?_|refine .one ?_|exact .own rfl rfl|exact .ocut rfl rfl|exact .full|exact .nil|refine ⟨?_,?_⟩));first|done|fail) (hd:o.dst=ot:=by first|exact (rfl:_=some _)|exact (rfl:_=none)) (hg:s.gd ops o=some true:=by rfl) (hf:[].all s.f=true:=by rfl):DA P ops draw (o :: l) acc s K  :=yY (FR R hs ho hok hb ha) hd hg hf h
theorem cC {f:FuncId} {xs:Array Operand} {ts:Array TypeId} {args:List V0} {ot:Option Nat} {res:TV} (ks:List Nat) (hs:FSpec P f args [] [] res []) (h:DA P ops draw l ((ks,aq (og ks)) :: acc) (s.app ot ⟨res,og ks,[]⟩) K) (ho:o.op = .call { callee:=.value (.func f),args:=xs,argTypes:=ts }:=by rfl) (hok:Ca args [] [] res []=true:=by rfl) (hks:ks.all (fun k=>(s.h k).isSome)=true:=by rfl) (ha:All2 (fun x d=>AR s ks (s.ev x) d) xs.toList args:=by (repeat' (first|exact trivial|exact .same _|refine ⟨⟨_,rfl,?_⟩,?_⟩|refine .ag ?_|refine .one ?_|exact .own rfl rfl|exact .ocut rfl rfl|exact .full|exact .nil|refine ⟨?_,?_⟩));first|done|fail) (hd:o.dst=ot:=by first|exact (rfl:_=some _)|exact (rfl:_=none)) (hg:s.gd ops o=some true:=by rfl) (hf:[].all s.f=true:=by rfl):DA P ops draw (o :: l) acc s K  :=yY (FS ks hs ho hok hks ha) hd hg hf h
theorem cH {f:FuncId} {xs:Array Operand} {ts:Array TypeId} {args:List V0} {ot:Option Nat} {res:TV} {hin:List (Nat×Box)} {us:List Nat} {hout:List (Nat×Option Box)} (q:Nat->Nat) (hs:FSpec P f args hin us res hout) (h:DA P ops draw l (((aq hin).map q,aq (fC q hout)) :: acc) (s.app ot ⟨res.ren q,fC q hout,us.map q⟩) K) (ho:o.op = .call { callee:=.value (.func f),args:=xs,argTypes:=ts }:=by rfl) (ha:All2 (fun x d=>s.ev x = .v (V0.ren q d)) xs.toList args:=by (repeat' (first|exact trivial|refine ⟨rfl,?_⟩));first|done|fail) (hn:eM ((aq hin++us).map q)=true:=by rfl) (hh:xz s q hin:=by (repeat' (first|exact trivial|refine ⟨rfl,?_⟩));first|done|fail) (hd:o.dst=ot:=by first|exact (rfl:_=some _)|exact (rfl:_=none)) (hg:s.gd ops o=some true:=by rfl) (hf:(us.map q).all s.f=true:=by rfl):DA P ops draw (o :: l) acc s K  :=yY (Hx hs q ho ha hn hh) hd hg hf h
theorem D7 {fn:Func} {hin:List (Nat×Box)} {hout:List (Nat×Option Box)} {e:Exit} (q:Nat->Nat) (he:e = .normal\/e = .ret:=by first|exact .inl rfl|exact .inr rfl) (hr:fn.results.toList=[]:=by rfl)  (hq:(aq hin).all (fun k=>(q k).beq k)=true:=by rfl) (hn:eM ((aq (hout.filter fun x=>x.2.isSome)).map q)=true:=by rfl) (hh:tm s q (fun j=>∀k,hput hout (fun _=>none) k≠none->q k≠j) hout:=by (repeat' (first|exact trivial|exact ⟨_,rfl,gO rfl⟩|exact fD rfl|exact .froz _ _ _ _ rfl (fE rfl)|exact .frozc _ _ _ _ rfl (fE rfl)|exact .ocut _ _ _ _ rfl|exact .nil _|refine ⟨_,rfl,?_⟩|refine ⟨?_,?_⟩|refine .box _ ?_));first|done|fail):sF P fn hin (.tup []) hout e s:=Nk q he hr hq hn hh
theorem cn {fn:Func} {hin:List (Nat×Box)} {r1:ResultVar} {x1:V0} {res:TV} {hout:List (Nat×Option Box)} {e:Exit} (q:Nat->Nat) (h:TVLe s q (fun j=>∀k,hput hout (fun _=>none) k≠none->q k≠j) (.v x1) res) (he:e = .normal\/e = .ret:=by first|exact .inl rfl|exact .inr rfl) (hr:fn.results.toList=[r1]:=by rfl) (h1:RV P s r1 x1:=by first|exact .tmp rfl|exact .row rfl rfl rfl|exact .one rfl rfl) (hq:(aq hin).all (fun k=>(q k).beq k)=true:=by rfl) (hn:eM ((aq (hout.filter fun x=>x.2.isSome)).map q)=true:=by rfl) (hh:tm s q (fun j=>∀k,hput hout (fun _=>none) k≠none->q k≠j) hout:=by (repeat' (first|exact trivial|exact ⟨_,rfl,gO rfl⟩|exact fD rfl|exact .froz _ _ _ _ rfl (fE rfl)|exact .frozc _ _ _ _ rfl (fE rfl)|exact .ocut _ _ _ _ rfl|exact .nil _|refine ⟨_,rfl,?_⟩|refine ⟨?_,?_⟩|refine .box _ ?_));first|done|fail):sF P fn hin res hout e s:=Nh q he hr h1 hq hn hh h
theorem gG {fn:Func} {hin:List (Nat×Box)} {r1:ResultVar} {x1:V0} {r2:ResultVar} {x2:V0} {res:TV} {hout:List (Nat×Option Box)} {e:Exit} (q:Nat->Nat) (h:TVLe s q (fun j=>∀k,hput hout (fun _=>none) k≠none->q k≠j) (.tup [x1,x2]) res) (he:e = .normal\/e = .ret:=by first|exact .inl rfl|exact .inr rfl) (hr:fn.results.toList=[r1,r2]:=by rfl) (h1:RV P s r1 x1:=by first|exact .tmp rfl|exact .row rfl rfl rfl|exact .one rfl rfl) (h2:RV P s r2 x2:=by first|exact .tmp rfl|exact .row rfl rfl rfl|exact .one rfl rfl) (hq:(aq hin).all (fun k=>(q k).beq k)=true:=by rfl) (hn:eM ((aq (hout.filter fun x=>x.2.isSome)).map q)=true:=by rfl) (hh:tm s q (fun j=>∀k,hput hout (fun _=>none) k≠none->q k≠j) hout:=by (repeat' (first|exact trivial|exact ⟨_,rfl,gO rfl⟩|exact fD rfl|exact .froz _ _ _ _ rfl (fE rfl)|exact .frozc _ _ _ _ rfl (fE rfl)|exact .ocut _ _ _ _ rfl|exact .nil _|refine ⟨_,rfl,?_⟩|refine ⟨?_,?_⟩|refine .box _ ?_));first|done|fail):sF P fn hin res hout e s:=Ni q he hr h1 h2 hq hn hh h
theorem fk {fn:Func} {hin:List (Nat×Box)} {r1:ResultVar} {x1:V0} {r2:ResultVar} {x2:V0} {r3:ResultVar} {x3:V0} {res:TV} {hout:List (Nat×Option Box)} {e:Exit} (q:Nat->Nat) (h:TVLe s q (fun j=>∀k,hput hout (fun _=>none) k≠none->q k≠j) (.tup [x1,x2,x3]) res) (he:e = .normal\/e = .ret:=by first|exact .inl rfl|exact .inr rfl) (hr:fn.results.toList=[r1,r2,r3]:=by rfl) (h1:RV P s r1 x1:=by first|exact .tmp rfl|exact .row rfl rfl rfl|exact .one rfl rfl) (h2:RV P s r2 x2:=by first|exact .tmp rfl|exact .row rfl rfl rfl|exact .one rfl rfl) (h3:RV P s r3 x3:=by first|exact .tmp rfl|exact .row rfl rfl rfl|exact .one rfl rfl) (hq:(aq hin).all (fun k=>(q k).beq k)=true:=by rfl) (hn:eM ((aq (hout.filter fun x=>x.2.isSome)).map q)=true:=by rfl) (hh:tm s q (fun j=>∀k,hput hout (fun _=>none) k≠none->q k≠j) hout:=by (repeat' (first|exact trivial|exact ⟨_,rfl,gO rfl⟩|exact fD rfl|exact .froz _ _ _ _ rfl (fE rfl)|exact .frozc _ _ _ _ rfl (fE rfl)|exact .ocut _ _ _ _ rfl|exact .nil _|refine ⟨_,rfl,?_⟩|refine ⟨?_,?_⟩|refine .box _ ?_));first|done|fail):sF P fn hin res hout e s:=Nj q he hr h1 h2 h3 hq hn hh h
theorem ak {p:Prop} (h:p:=by repeat' (first|exact trivial|exact ke rfl|exact fD rfl|exact .froz _ _ _ _ rfl (fE rfl)|exact .frozc _ _ _ _ rfl (fE rfl)|exact .ocut _ _ _ _ rfl|exact .nil _|exact .full _ _|exact .any _|refine .v ?_|refine .tup ?_|refine .one ?_|refine .ag ?_|refine ⟨?_,?_⟩)):p:=h
theorem aL {P:Prop} (h:P:=by exact a8 (qf [])):P:=h
theorem aT {P:Prop} (h:P:=by (refine cn (qf []) ?_;exact ak)):P:=h
theorem eR {fn:Func} {t:Nat} {v v':Value} {e:Exit} (h:v=v') (he:e = .normal\/e = .ret:=by first|exact .inl rfl|exact .inr rfl) (hr:fn.results.toList=[.tmp t]:=by rfl) (hx:s.t t = .c (.sc v):=by rfl):sF P fn [] (.c (.sc v')) [] e s:=CE he hr hx h
structure Msk (p:Prop):Prop where
 h:p
theorem Ij {q1:Option Tmp} {q2:Call} {q3:TypeId} {q4:String} {q5:Array Edge} {q6:Option (Nat×Bool)} (h:DA P ops draw (⟨q1,.call q2,q3,q4,q5,q6⟩ :: l) acc s K):DA P ops draw (⟨q1,.call q2,q3,q4,q5,q6⟩ :: l) acc s K:=h
theorem Nu {j t:Nat} {want b:Bool} (hg:o.guard=some (j,want):=by rfl) (hj:(ops[j]?).bind (·.dst)=some t:=by rfl) (ht:s.t t = .b b:=by rfl) (_:Oz b:=by (fail_if_success (with_reducible exact Nq));(fail_if_success (with_reducible exact Nr));exact trivial) (hc:b=false->False:=by intro hb;first|(cases hb;done)|((try simp only [decide_eq_true_eq,decide_eq_false_iff_not,Bool.not_eq_true',Bool.not_eq_false',beq_iff_eq,bne_iff_ne,beq_eq_false_iff_ne,bne_eq_false_iff_eq,ne_eq,Decidable.not_not] at hb);first|contradiction|exact Bool.noConfusion (hb.symm.trans (by assumption):false=true)|exact Bool.noConfusion (hb.symm.trans (by assumption):true=false)|omega)):DA P ops draw (o :: l) acc (s.app (some t) ⟨.b true,[],[]⟩) K->DA P ops draw (o :: l) acc s K:=fun h=>vh hg hj ht (fun _=>h) fun hb=>(hc hb).elim
theorem Nv {j t:Nat} {want b:Bool} (hg:o.guard=some (j,want):=by rfl) (hj:(ops[j]?).bind (·.dst)=some t:=by rfl) (ht:s.t t = .b b:=by rfl) (_:Oz b:=by (fail_if_success (with_reducible exact Nq));(fail_if_success (with_reducible exact Nr));exact trivial) (hc:b=true->False:=by intro hb;first|(cases hb;done)|((try simp only [decide_eq_true_eq,decide_eq_false_iff_not,Bool.not_eq_true',Bool.not_eq_false',beq_iff_eq,bne_iff_ne,beq_eq_false_iff_ne,bne_eq_false_iff_eq,ne_eq,Decidable.not_not] at hb);first|contradiction|exact Bool.noConfusion (hb.symm.trans (by assumption):false=true)|exact Bool.noConfusion (hb.symm.trans (by assumption):true=false)|omega)):DA P ops draw (o :: l) acc (s.app (some t) ⟨.b false,[],[]⟩) K->DA P ops draw (o :: l) acc s K:=fun h=>vh hg hj ht (fun hb=>(hc hb).elim) fun _=>h
theorem OZ {nt:Nat} {Ks:List Nat} {Q:Exit->Mst->Prop} {x:Operand} {u e:Code} {b:Bool} (hx:s.ev x = .b b:=by rfl) (hc:b=false->False:=by intro hb;first|(cases hb;done)|((try simp only [decide_eq_true_eq,decide_eq_false_iff_not,Bool.not_eq_true',Bool.not_eq_false',beq_iff_eq,bne_iff_ne,beq_eq_false_iff_ne,bne_eq_false_iff_eq,ne_eq,Decidable.not_not] at hb);first|contradiction|exact Bool.noConfusion (hb.symm.trans (by assumption):false=true)|exact Bool.noConfusion (hb.symm.trans (by assumption):true=false)|omega)):AW P nt Ks u Q s->AW P nt Ks (.cond x u e) Q s:=fun h=>yJ hx (fun _=>h) fun hb=>(hc hb).elim
theorem O0 {nt:Nat} {Ks:List Nat} {Q:Exit->Mst->Prop} {x:Operand} {u e:Code} {b:Bool} (hx:s.ev x = .b b:=by rfl) (hc:b=true->False:=by intro hb;first|(cases hb;done)|((try simp only [decide_eq_true_eq,decide_eq_false_iff_not,Bool.not_eq_true',Bool.not_eq_false',beq_iff_eq,bne_iff_ne,beq_eq_false_iff_ne,bne_eq_false_iff_eq,ne_eq,Decidable.not_not] at hb);first|contradiction|exact Bool.noConfusion (hb.symm.trans (by assumption):false=true)|exact Bool.noConfusion (hb.symm.trans (by assumption):true=false)|omega)):AW P nt Ks e Q s->AW P nt Ks (.cond x u e) Q s:=fun h=>yJ hx (fun hb=>(hc hb).elim) fun _=>h
theorem QN {f:FuncId} {xs:Array Operand} {ts:Array TypeId} {args:List V0} {ot:Option Nat} {res:TV} (ho:o.op = .call { callee:=.value (.func f),args:=xs,argTypes:=ts }:=by rfl) (hg:s.gd ops o=some true:=by rfl) (hs:FSpec P f args [] [] res []:=by assumption) (hok:Ca args [] [] res []=true:=by rfl) (ha:All2 (fun x d=>AR s [] (s.ev x) d) xs.toList args:=by (repeat' (first|exact trivial|exact .same _|refine ⟨⟨_,rfl,?_⟩,?_⟩|refine .ag ?_|refine .one ?_|exact .own rfl rfl|exact .ocut rfl rfl|exact .full|exact .nil|refine ⟨?_,?_⟩));first|done|fail) (hd:o.dst=ot:=by first|exact (rfl:_=some _)|exact (rfl:_=none)) (hf:[].all s.f=true:=by rfl):DA P ops draw l (([],aq (og [])) :: acc) (s.app ot ⟨res,og [],[]⟩) K->DA P ops draw (o :: l) acc s K:=fun h=>cC [] hs h ho hok rfl ha hd hg hf
theorem QV {g g':Prop} (h:g') (hs:g'->g:=by intro h;first|((with_reducible refine Ih ?_);revert h;first|exact Nu|exact Nv)|((with_reducible refine Ii ?_);revert h;first|exact OZ|exact O0)|((with_reducible refine Ij ?_);revert h;exact QN)|((with_reducible refine Mr ?_);revert h;first|(with_reducible exact HD)|(with_reducible exact OL)|exact DU rfl rfl|exact QJ|exact OK)|((with_reducible refine D5 ?_);revert h;first|(with_reducible exact OM)|(with_reducible exact ON)|(with_reducible exact uF)|(with_reducible exact Ab)|(with_reducible exact Ht)|(with_reducible exact DS)|(with_reducible exact DQ)|(with_reducible exact QK)|(with_reducible exact QL))|((with_reducible refine OX ?_);exact qx h)|((with_reducible refine OY ?_);exact qy h)):g:=hs h
theorem ao {g g':Prop} (h:g') (hs:Msk g'->g:=by (intro h9;(repeat refine QV ?_);exact h9.h)):g:=hs ⟨h⟩
end
theorem fV {g g':Prop} (h:g') (hs:g'->g:=by intro h;(with_reducible refine Ij ?_);revert h;exact QN):g:=hs h
instance (d:Nat):Dp (qF (d+1)) where
 deep:=Ex.d d
 get:=by
  rintro w F ρ x cs ⟨A,c,rfl,h1,h2,h3⟩;exact ⟨rfl,rfl,rfl,rfl,⟨A,c,rfl,⟨h1,h2⟩,h3⟩,trivial⟩
 put:=by
  intro w F ρ x cs h
  match cs,h with
  | [_,_,_,_,_],⟨rfl,rfl,rfl,rfl,⟨A,c,rfl,h1,h3⟩,_⟩=>exact ⟨A,c,rfl,h1.1,h1.2,h3⟩
 nok:=fun _ _=>rfl
theorem eq_tm (p q:Tm):DT [.string p.name,.int .i64 p.am.mode,.int .i64 p.am.units] [.string q.name,.int .i64 q.am.mode,.int .i64 q.am.units]=decide (p=q):=by
 obtain ⟨a,b,c⟩:=p;obtain ⟨x,y,z⟩:=q;rw [Bool.eq_iff_iff];simp [DT,Oy]
 intros
 obtain ⟨a⟩:=a;obtain ⟨x⟩:=x;rw [show ((ByteArray.mk a) == (ByteArray.mk x))=(a == x) from rfl,beq_iff_eq];simp
instance:EQ prog 63 [1,0,0]:=⟨by kernel_rfl,fun w a b ha hb=>by
 obtain ⟨a1,a2,a3,rfl⟩:=KQ (qP ha);obtain ⟨b1,b2,b3,rfl⟩:=KQ (qP hb);simp only [List.map_cons,List.map_nil,List.cons.injEq,and_true] at ha hb;obtain ⟨x1,rfl⟩:=HY ha.1;obtain ⟨x2,rfl⟩:=dR ha.2.1;obtain ⟨x3,rfl⟩:=dR ha.2.2;obtain ⟨y1,rfl⟩:=HY hb.1;obtain ⟨y2,rfl⟩:=dR hb.2.1;obtain ⟨y3,rfl⟩:=dR hb.2.2;rw [eq_tm ⟨x1,⟨x2,x3⟩⟩ ⟨y1,⟨y2,y3⟩⟩];exact Kr ⟨x1,⟨x2,x3⟩⟩ ⟨y1,⟨y2,y3⟩⟩ w⟩
instance:Dp eI:=fb _ _ _ _ _
instance:Dp eJ:=fb _ _ _ _ _
abbrev iV (n:Int):V0:=.one (.sc (.int .i64 n))
theorem ky {c:Ctx} {s:Mst} {ρ:Nat->Value} {a:Act} {w:World} (hr:Rp c s ρ a w) {t i:Nat} {cs:List D} {d:Nat} {l:List Ex} (h:s.t t = .v (.ag cs)) (hi:cs[i]? = some (.sl (qF d) l)):l.length<=9223372036854775807/\(0<l.length->∃e,d=e+1):=by
 refine ⟨cG hr h hi,fun h0=>?_⟩;cases d with
 | succ e=>exact ⟨e,rfl⟩
 | zero =>
  have:=hr.tmp t;rw [h] at this;obtain ⟨vs,_,h2⟩:=this;obtain ⟨v,_,A,cap,rfl,_,hR⟩:=h2.get hi;obtain ⟨g,off,cs',_,_,hc,_⟩:=hR.getx h0 rfl;exact hc.elim
theorem xI:∀{l:List (Nat×Option Box)} {h h':Nat->Option Box} {n:Nat},h n=h' n->hput l h n=hput l h' n
 | [],_,_,_,e=>e
 | (k,b) :: l,h,h',n,e=>by simp only [hput];rw [xI e]
theorem FSpec.nil0 {P:Program} {f:FuncId} {args:List V0} {α:Type} {e:TypeId} {E:El α} {us:List Nat} {res:TV} {hout:List (Nat×Option Box)} (h:FSpec P f (.one (.own 0) :: args) [(0,.arr e E [])] us res ((0,none) :: hout)) (hu:aI us 0=false) (ha:∀(q:Nat->Nat) k,args.all (fun d=>!(V0.ren q d).has k)=true):FSpec P f (.one (.sc (.slice none 0 0)) :: args) [] (0 :: us) res ((0,none) :: hout):=by
 refine ⟨h.en,fun q c st ρ a w vs hr hq hargs hin hfree=>?_⟩;have hf0:st.f (q 0)=true:=hfree 0 (by simp [aI]);have hne:∀{k},k≠q 0->(q 0).beq k=false:=fun hk=>by
  cases hb:(q 0).beq _ with
  | false=>rfl
  | true=>exact absurd (qNb hb).symm hk
 have hkk:∀k':Nat,aF [(q 0,some (Box.arr e E ([]:List α)))] k'=true->k'=q 0:=fun k' h=>by
  exact Q0
 have h2:=hr.app (ρ':=upd ρ (q 0) (.slice none 0 0)) (w':=w) (dst:=none) (v:=undef) (e:=⟨.c .any,[(q 0,some (.arr e E []))],[q 0]⟩) (fun d hd=>by cases hd)
  (fun k' hk=>by have h9:k'=q 0:=(by simp [aI] at hk;exact hk.symm);subst h9;exact ⟨hf0,by simp [aF]⟩)
  (fun k' hk=>dQ (by simpa [aI] using hk)) (fun k' hk=>.inl (by rw [hkk k' hk];simp [aI])) (Frx.refl _ _)
  (fun k' bx g hk _ hg=>by rw [hkk k' hk,aN] at hg;cases hg) (fun k1 k2 b b' g h1 h2 _ _ _ _=>by rw [hkk k1 h1,hkk k2 h2]) (fun k' hk=>by simp [TV.has,V0.has,D.has] at hk) (fun k1 k2 bx hk hb hx=>by
   rw [hkk k2 hk] at hb;simp only [Go.Proofs.YtkkbopkbjacfmaaGreatDoor.hput,Nat.beq_refl,qCt,Option.some.injEq] at hb;subst hb;simp [Box.has] at hx)
  (fun k' bx hk hb=>by
   rw [hkk k' hk] at hb ⊢;simp only [Go.Proofs.YtkkbopkbjacfmaaGreatDoor.hput,Nat.beq_refl,qCt,Option.some.injEq] at hb;subst hb;rw [aN];exact ⟨[],World.ownsRow_nil _ _ _ _,rfl⟩)
  trivial
 match vs,hargs with
 | v :: vs,⟨hv,hvs⟩ =>
  have hv:v = .slice none 0 0:=hv;subst hv;refine (h.ca q c _ _ a w (.slice none 0 0 :: vs) h2 hq ⟨(aN _ _ _).symm,hvs.imp fun d u hd h5=>h5.mono (fun b hb=>⟨⟨hb.1,hb.2.1,fun k bx hk he=>?_⟩,rfl⟩) fun k hk=>?_⟩ (fun k b hb=>?_) fun k hk=>?_).mono ?_
  ·by_cases h9:k=q 0
   ·rw [h9,aN] at he;cases he
   ·rw [dQ (hne h9)] at he;refine hb.2.2 k bx ?_ he;have hk:hput [(q 0,some (.arr e E []))] st.h k=some bx:=hk
    rwa [cc (by simp [aF,hne h9])] at hk
  ·have:=List.all_eq_true.1 (ha q k) d hd;rw [hk] at this;cases this
  ·cases k with
   | succ k=>cases hb
   | zero =>
    injection hb with hb;subst hb;show hput [(q 0,some (.arr e E []))] st.h (q 0)=_;simp [Go.Proofs.YtkkbopkbjacfmaaGreatDoor.hput,Box.ren]
  ·have h7:q k≠q 0:=fun h8=>by
    have:=hq k 0 (by show (Nat.beq 0 k || aI us k)=true;rw [hk,Bool.or_true]) rfl h8;subst this;rw [hu] at hk;cases hk
   show (st.f (q k) && !aI [q 0] (q k))=true;rw [hfree k (by show (Nat.beq 0 k || aI us k)=true;rw [hk,Bool.or_true])];simp [aI,hne h7]
  ·rintro en w' ⟨v,he,hd⟩;refine ⟨v,he,fun dst hdst=>?_⟩;obtain ⟨ρ',h3⟩:=hd dst hdst;refine ⟨ρ',?_⟩;have hE:st.app dst ⟨res.ren q,fC q ((0,none) :: hout),(0 :: us).map q⟩=(st.app none ⟨.c .any,[(q 0,some (.arr e E []))],[q 0]⟩).app dst ⟨res.ren q,fC q ((0,none) :: hout),us.map q⟩:=by
    unfold Mst.app;congr 1
    ·funext n
     show hput ((q 0,none) :: fC q hout) st.h n=hput ((q 0,none) :: fC q hout) (hput [(q 0,some (.arr e E []))] st.h) n;simp only [hput];cases hb:(q 0).beq n with
     | true=>rfl
     | false=>exact xI (by simp [Go.Proofs.YtkkbopkbjacfmaaGreatDoor.hput,hb])
    ·funext n
     simp [aI,Bool.and_assoc]
   rw [hE];exact h3
theorem Ms (n:Int):FSpec prog 261 [.one (.sc (.int .i64 n))] [] [] (.i (bE n)) []:=by
 obtain ⟨v,hv⟩:=qGe (bE n);rw [hv];unfold bE at hv;refine aS func261 ?_;by_cases h:n<0\/1073741824<=n
 ·rw [if_pos h] at hv;obtain rfl:=hv;repeat' (first|refine az ?_ ?_|refine ay ?_|exact aA|refine ax fun hb=>?_|exact aT|fail)
  all_goals (exfalso;omega)
 ·rw [if_neg h] at hv;obtain rfl:=hv;exact QY
theorem IJ (l:List Int) {b:Bool} (hb0:decide (l.length<=300)=b):FSpec prog 7 [.one (.sl fo l)] [] [] (.b b) []:=by
 refine aS func7 ?_;refine ao ?_;refine eR ?_;rw [<-hb0];congr 1
 exact decide_eq_decide.2 (by omega)
section
variable {P:Program} {o:Oper} {s:Mst}
def Ok:Option Box->Bool
 | some (.box ..)=>true
 | _=>false
theorem BT {α:Type _} {β:Type _} {R:α->β->Prop}:∀{l:List α} {m:List β} {l':List α} {m':List β},All2 R l m->All2 R l' m'->All2 R (l++l') (m++m')
 | [],[],_,_,_,k=>k
 | _ :: _,_ :: _,_,_,h,k=>⟨h.1,BT h.2 k⟩
 | [],_ :: _,_,_,h,_=>h.elim
 | _ :: _,[],_,_,h,_=>h.elim
theorem GD {y:Operand} {f:FuncId} {xs:Array Operand} {ts:Array TypeId} {ar:List V0} {n:Nat} {kc:List Nat} {hin:List (Nat×Box)} {us:List Nat} {res:TV} {hout:List (Nat×Option Box)} (hs:FSpec P f ar hin us res hout) (q:Nat->Nat) (ho:o.op = .call { callee:=.value y,args:=xs,argTypes:=ts })
  (hy:s.ev y = .c (.clo f (kc.map q))) (hA:ar.drop n=kc.map fun k=>.one (.ptr k 0)) (hk:kc.all (fun k=>Ok (gg hin k))=true)
  (ha:All2 (fun x d=>s.ev x = .v (V0.ren q d)) xs.toList (ar.take n)) (hn:eM ((aq hin++us).map q)=true) (hh:xz s q hin):LOp P o s ((aq hin).map q) ⟨res.ren q,fC q hout,us.map q⟩:=by
 intro c st ρ a w hr h1 h2 h3 h4;have hin':∀k b,gg hin k=some b->st.h (q k)=some (b.ren q):=fun k b hk=>by
  rw [h2 (q k) (by rw [bJ];exact List.mem_map.2 ⟨k,bJ.1 (bS hk).1,rfl⟩)];exact qM hh k b (bS hk).2
 have hargs:All2 (fun d v=>(V0.ren q d).rep w (Fz c st.h ρ w) ρ v) (ar.take n) (xs.toList.map a.eval):=by
  have key:∀(l:List Operand) (m:List V0),(∀x∈l,st.ev x=s.ev x)->All2 (fun x d=>s.ev x = .v (V0.ren q d)) l m->All2 (fun d v=>(V0.ren q d).rep w (Fz c st.h ρ w) ρ v) m (l.map a.eval):=by
   intro l;induction l with
   | nil=>intro m _ h;cases m with
    | nil=>trivial
    | cons=>exact h.elim
   | cons x l ih =>
    intro m hl h;cases m with
    | nil=>exact h.elim
    | cons d m =>
     refine ⟨?_,ih m (fun y hy=>hl y (by simp [hy])) h.2⟩;have:=hr.ev x;rw [hl x (by simp),h.1] at this;exact this
  exact key _ _ (fun x hx=>h1 x (by simp [ho,Op.operands,Call.operands];exact .inr (by simpa using hx))) ha
 have hv:=hr.ev y;rw [h1 y (by simp [ho,Op.operands,Call.operands]),hy] at hv;obtain ⟨vs,hv,hvs⟩:=hv;have hcap:All2 (fun d v=>(V0.ren q d).rep w (Fz c st.h ρ w) ρ v) (ar.drop n) vs:=by
  rw [hA];have key:∀(l:List Nat) (m:List Value),l.all (fun k=>Ok (gg hin k))=true->All2 (fun k u=>u=ρ k) (l.map q) m->All2 (fun d v=>(V0.ren q d).rep w (Fz c st.h ρ w) ρ v) (l.map fun k=>V0.one (.ptr k 0)) m:=by
   intro l;induction l with
   | nil=>intro m _ h;cases m with
    | nil=>trivial
    | cons=>exact h.elim
   | cons k l ih =>
    intro m hb h;cases m with
    | nil=>exact h.elim
    | cons u m =>
     rw [List.all_cons,qBa] at hb;refine ⟨?_,ih m hb.2 h.2⟩;have hu:u=ρ (q k):=h.1;cases h9:gg hin k with
     | none=>rw [h9] at hb;cases hb.1
     | some b =>
      rw [h9] at hb;have h8:=hr.hp _ _ (hin' k b h9);cases b with
      | box t cs =>
       obtain ⟨g,_,e,_⟩:=h8;exact ⟨g,e,hu.trans e⟩
      | arr=>cases hb.1
      | mp=>cases hb.1
      | it=>cases hb.1
  exact key kc vs hk hvs
 have hall:All2 (fun d v=>(V0.ren q d).rep w (Fz c st.h ρ w) ρ v) ar (xs.toList.map a.eval++vs):=by
  have:=BT hargs hcap
  rwa [List.take_append_drop] at this
 have hc:=hs.ca q c st ρ a w (xs.toList.map a.eval++vs) hr (fun k k' hk hk' e=>jD hn k k' hk hk' e) hall hin' fun k hk=>h3 _ (by show aI (us.map q) (q k)=true;rw [bJ];exact List.mem_map.2 ⟨k,bJ.1 hk,rfl⟩);have he:(xs.toList.map a.eval++vs).toArray=xs.map a.eval++vs.toArray:=by apply Array.toList_inj.1;simp
 rw [he] at hc;unfold Oper.wp execOp;simp only [ho,resolve,hv,Deferred.ofValue,invoke,Sem.run_bind,Sem.run_pure,Result.andThen_ok,Array.append_empty,Array.empty_append];rw [hs.en];refine hc.mono fun e w' ⟨v,hv,hk⟩=>?_;subst hv;exact hk o.dst h4
end
section
variable {P:Program} {nt:Nat} {Ks:List Nat} {s:Mst} {K:Mst->Prop} {ops:Array Oper} {draw:Bool} {o:Oper} {l:List Oper} {acc:List (List Nat×List Nat)} {t:Nat}
theorem JU {y:Operand} {f:FuncId} {xs:Array Operand} {ts:Array TypeId} {ar:List V0} {ot:Option Nat} {res:TV} {hin:List (Nat×Box)} {us:List Nat} {hout:List (Nat×Option Box)} (n:Nat) (kc:List Nat) (q:Nat->Nat) (hs:FSpec P f ar hin us res hout) (h:DA P ops draw l (((aq hin).map q,aq (fC q hout)) :: acc) (s.app ot ⟨res.ren q,fC q hout,us.map q⟩) K) (ho:o.op = .call { callee:=.value y,args:=xs,argTypes:=ts }:=by rfl) (hy:s.ev y = .c (.clo f (kc.map q)):=by rfl) (hA:ar.drop n=kc.map (fun k=>.one (.ptr k 0)):=by rfl) (hk:kc.all (fun k=>Ok (gg hin k))=true:=by rfl) (ha:All2 (fun x d=>s.ev x = .v (V0.ren q d)) xs.toList (ar.take n):=by (repeat' (first|exact trivial|refine ⟨rfl,?_⟩));first|done|fail) (hn:eM ((aq hin++us).map q)=true:=by rfl) (hh:xz s q hin:=by (repeat' (first|exact trivial|refine ⟨rfl,?_⟩));first|done|fail) (hd:o.dst=ot:=by first|exact (rfl:_=some _)|exact (rfl:_=none)) (hg:s.gd ops o=some true:=by rfl) (hf:(us.map q).all s.f=true:=by rfl):DA P ops draw (o :: l) acc s K:=yY (GD hs q ho hy hA hk ha hn hh) hd hg hf h
end
end Go.Proofs.YtkkbopkbjacfmaaGreatDoor
