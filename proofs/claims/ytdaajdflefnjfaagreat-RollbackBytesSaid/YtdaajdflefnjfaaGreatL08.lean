/- Part 8 of 24 of the proof of rollbackBytes_holds (no condition). -/
import Derived.Test.YtdaajdflefnjfaaGreatL07
import Derived.Test.YtdaajdflefnjfaaGreatL06
set_option linter.unusedVariables false
set_option linter.unusedSimpArgs false
set_option maxRecDepth 100000
set_option maxHeartbeats 64000000
namespace Go.Proofs.YtdaajdflefnjfaaGreat
open Go.RowKit Go.Proofs.Tryz
theorem rW {r:Rs} {a:Am} (h:aH r a=true):bV r ⟨0,0⟩ a=a:=by
 have hs:bb r=true:=by unfold aH at h;rw [Bool.and_eq_true] at h;exact h.1
 have hp:=cE h
 have hz:=dR h
 have p0:cQ r ⟨0,0⟩=true:=by unfold cQ aO;rw [hs];rfl
 have z0:aO ⟨0,0⟩=true:=rfl
 have c1:bq r ⟨0,0⟩ a=false:=by unfold bq;rw [p0,hp,hz,z0];simp
 have c2:bq r a ⟨0,0⟩=true:=by unfold bq;rw [p0,hp,z0];simp
 unfold bV
 rw [p0,hp,c1,c2]
 rfl
theorem vK {q:Qu} {p:Pr} {a:Am} {prio:Int} (h:(bG q p a prio).2.2=0):ar q=true∧fI p=true∧(0≤prio∧prio≤7)∧aH q.res a=true∧ap q p=none∧
    ((bq q.res (aq q.holds p) a=true∧bG q p a prio=lJ (q,[]))∨
     (bq q.res (aq q.holds p) a=false∧aq q.holds p≠⟨0,0⟩∧bG q p a prio=lJ (fL { q with convs:=q.convs++[⟨p,bV q.res (aq q.holds p) a,0,0⟩] }))∨
     (bq q.res (aq q.holds p) a=false∧aq q.holds p=⟨0,0⟩∧q.holds.length+q.waits.length<8∧tt ⟨p,a,prio,0⟩=true∧bG q p a prio=lJ (fL { q with waits:=i6 q.waits ⟨p,a,prio,0⟩ }))):=by
  unfold bG at h ⊢
  cases hS:ar q with
  | false=>rw [hS] at h;simp [bW] at h
  | true =>
    have hd:=aG hS
    rw [hS] at h
    simp only [Bool.not_true,cond_false] at h ⊢
    cases hA:fI p && decide (0≤prio) && decide (prio≤7) with
    | false=>rw [hA] at h;simp [bW] at h
    | true =>
      rw [hA] at h
      simp only [Bool.not_true,cond_false] at h ⊢
      simp only [Bool.and_eq_true,decide_eq_true_eq] at hA
      cases hF:aH q.res a with
      | false=>rw [hF] at h;simp [bW] at h
      | true =>
        rw [hF] at h
        simp only [Bool.not_true,cond_false] at h ⊢
        cases hW:ap q p with
        | some b=>rw [hW] at h;simp [bW] at h
        | none =>
          rw [hW] at h
          simp only [Option.isSome_none,cond_false] at h ⊢
          refine ⟨trivial,hA.1.1,⟨hA.1.2,hA.2⟩,trivial,trivial,?_⟩
          cases hC:bq q.res (aq q.holds p) a with
          | true=>exact .inl ⟨rfl,rfl⟩
          | false =>
            rw [hC] at h
            simp only [cond_false] at h ⊢
            right
            cases hZ:aO (aq q.holds p) with
            | false=>exact .inl ⟨trivial,bz.1 hZ,rfl⟩
            | true =>
              rw [hZ] at h
              simp only [Bool.not_true,cond_false] at h ⊢
              right
              by_cases hl:8≤q.holds.length+q.waits.length
              · rw [decide_eq_true hl] at h;simp [bW] at h
              · rw [decide_eq_false hl] at h ⊢
                simp only [cond_false] at h ⊢
                obtain ⟨e1,hv⟩:=qU hd hW hF hA.1.1 ⟨hA.1.2,hA.2⟩ (by omega)
                rw [e1]
                simp only [decide_true,Bool.not_true,cond_false]
                exact ⟨by trivial,of_decide_eq_true hZ,by omega,hv,by trivial⟩
theorem xw {q:Qu} {p:Pr} {a:Am} {prio:Int} (hS:ar q=true) (hp:fI p=true) (hr:0≤prio∧prio≤7) (hF:aH q.res a=true) (hW:ap q p=none) (hl:aq q.holds p≠⟨0,0⟩∨q.holds.length+q.waits.length<8):(bG q p a prio).2.2=0:=by
 have hd:=aG hS
 unfold bG
 rw [hS,hp,hF,hW,decide_eq_true hr.1,decide_eq_true hr.2]
 simp only [Bool.not_true,Bool.and_self,cond_false,Option.isSome_none]
 cases hC:bq q.res (aq q.holds p) a with
 | true=>rfl
 | false =>
  simp only [cond_false]
  cases hZ:aO (aq q.holds p) with
  | false=>rfl
  | true =>
   have h0:aq q.holds p=⟨0,0⟩:=of_decide_eq_true hZ
   have hl':q.holds.length+q.waits.length<8:=by
    rcases hl with hl|hl
    ·exact absurd h0 hl
    ·exact hl
   obtain ⟨e1,_⟩:=qU hd hW hF hp hr hl'
   rw [decide_eq_false (show ¬8≤q.holds.length+q.waits.length by omega),e1]
   rfl
structure ClOut (q q':Qu) (p:Pr) (a:Am) (prio:Int):Prop where
 out:Out q q' p
 own:(bq q.res (aq q.holds p) a=true∧q'=q)∨(bq q.res (aq q.holds p) a=false∧((aq q'.holds p=aq q.holds p∧ap q' p=some (bV q.res (aq q.holds p) a))∨(aq q'.holds p=bV q.res (aq q.holds p) a∧ap q' p=none)))
 pr:∀x∈q'.waits,x.proc=p→x.prio=prio
theorem zv {q:Qu} {p:Pr} {a:Am} {prio:Int} (h:(bG q p a prio).2.2=0):ClOut q (bG q p a prio).1 p a prio:=by
 have ho:=zt h
 obtain ⟨hS,hvp,hr,hF,hW,hc⟩:=vK h
 have hd:=aG hS
 have hno:=dN.1 hW
 rcases hc with ⟨hC,e⟩|⟨hC,h0,e⟩|⟨hC,h0,hl,hv,e⟩
 ·rw [e] at ho ⊢
  exact ⟨ho,.inl ⟨hC,rfl⟩,fun x hx hp=>absurd hp (hno x (by have h:x∈q.waits:=hx;simp [h]))⟩
 ·rw [e] at ho ⊢
  have hs:=hd.cons h0 hW hF hC
  refine ⟨ho,.inr ⟨hC,?_⟩,fun x hx hp=>?_⟩
  ·have hw:ap { q with convs:=q.convs++[⟨p,bV q.res (aq q.holds p) a,0,0⟩] } p=some (bV q.res (aq q.holds p) a):=by
    unfold ap
    have hm:(⟨p,bV q.res (aq q.holds p) a,0,0⟩:Wt)∈q.convs++[⟨p,bV q.res (aq q.holds p) a,0,0⟩]++q.waits:=by simp
    exact rS (x:=⟨p,bV q.res (aq q.holds p) a,0,0⟩) hs.nd hm
   rcases qT hs p with ⟨h1,h2⟩|⟨b,h1,h2,h3⟩
   ·exact .inl ⟨h1,h2.trans hw⟩
   ·rw [hw] at h1
    injection h1 with h1
    exact .inr ⟨h2.trans h1.symm,h3⟩
  ·have h1:=pk hx
   exact absurd hp (hno x (by have h:x∈q.waits:=h1;simp [h]))
 ·rw [e] at ho ⊢
  have hs:=hd.ins (w:=⟨p,a,prio,0⟩) h0 hW hF hv hl
  have hJ:bV q.res (aq q.holds p) a=a:=by rw [h0];exact rW hF
  refine ⟨ho,.inr ⟨hC,?_⟩,fun x hx hp=>?_⟩
  ·rw [hJ]
   have hw:ap { q with waits:=i6 q.waits ⟨p,a,prio,0⟩ } p=some a:=by
    unfold ap
    have hm:(⟨p,a,prio,0⟩:Wt)∈q.convs++i6 q.waits ⟨p,a,prio,0⟩:=by
     rw [List.mem_append]
     right
     unfold i6
     simp
    exact rS (x:=⟨p,a,prio,0⟩) hs.nd hm
   rcases qT hs p with ⟨h1,h2⟩|⟨b,h1,h2,h3⟩
   ·exact .inl ⟨h1,h2.trans hw⟩
   ·rw [hw] at h1
    injection h1 with h1
    exact .inr ⟨h2.trans h1.symm,h3⟩
  ·rcases rR (pk hx) with rfl|h1|⟨y,h1,rfl,_,_⟩
   ·rfl
   ·exact absurd hp (hno x (by simp [h1]))
   ·exact absurd (show y.proc=p from hp) (hno y (by simp [h1]))
theorem tD {q:Qu} {p:Pr} (h:(bj q p).2.2=0):ar q=true∧(ap q p).isSome=true∧bj q p=lJ (fL { q with convs:=cG q.convs p,waits:=cG q.waits p }):=by
 unfold bj at h ⊢
 cases hS:ar q with
 | false=>rw [hS] at h;simp [bW] at h
 | true =>
  rw [hS] at h
  simp only [Bool.not_true,cond_false] at h ⊢
  cases hW:(ap q p).isSome with
  | false=>rw [hW] at h;simp [bW] at h
  | true=>exact ⟨by trivial,by trivial,by trivial⟩
theorem vL {q:Qu} {p:Pr} (hS:ar q=true) (hW:(ap q p).isSome=true):(bj q p).2.2=0:=by unfold bj;rw [hS,hW];rfl
theorem jy {r:Qu} {p:Pr} (hs:Sd r) (hw:ap r p=none):aq (fL r).1.holds p=aq r.holds p∧ap (fL r).1 p=none:=by
 rcases qT hs p with ⟨h1,h2⟩|⟨b,h1,_⟩
 ·exact ⟨h1,h2.trans hw⟩
 ·rw [hw] at h1;cases h1
theorem xy {q:Qu} {p:Pr} (h:(bj q p).2.2=0):Out q (bj q p).1 p∧aq (bj q p).1.holds p=aq q.holds p∧ap (bj q p).1 p=none:=by
 have ho:=xq h
 obtain ⟨hS,_,e⟩:=tD h
 have hd:=aG hS
 rw [e] at ho ⊢
 exact ⟨ho,jy (hd.drop p) (by rw [jx,if_pos rfl])⟩
theorem vM {q:Qu} {p:Pr} {a:Am} (h:(bL q p a).2.2=0):ar q=true∧aq q.holds p≠⟨0,0⟩∧ap q p=none∧bq q.res (aq q.holds p) a=true∧((aq q.holds p=a∧bL q p a=lJ (q,[]))∨(aq q.holds p≠a∧bL q p a=lJ (fL { q with holds:=cV q.holds p a }))):=by
 unfold bL at h ⊢
 cases hS:ar q with
 | false=>rw [hS] at h;simp [bW] at h
 | true =>
  rw [hS] at h
  simp only [Bool.not_true,cond_false] at h ⊢
  cases hZ:aO (aq q.holds p) with
  | true=>rw [hZ] at h;simp [bW] at h
  | false =>
   rw [hZ] at h
   simp only [cond_false] at h ⊢
   cases hW:ap q p with
   | some b=>rw [hW] at h;simp [bW] at h
   | none =>
    rw [hW] at h
    simp only [Option.isSome_none,cond_false] at h ⊢
    cases hC:bq q.res (aq q.holds p) a with
    | false=>rw [hC] at h;simp [bW] at h
    | true =>
     simp only [Bool.not_true,cond_false]
     refine ⟨trivial,bz.1 hZ,trivial,trivial,?_⟩
     by_cases hE:aq q.holds p=a
     ·rw [decide_eq_true hE]
      exact .inl ⟨hE,rfl⟩
     ·rw [decide_eq_false hE]
      exact .inr ⟨hE,rfl⟩
theorem xz {q:Qu} {p:Pr} {a:Am} (hS:ar q=true) (h0:aq q.holds p≠⟨0,0⟩) (hW:ap q p=none) (hC:bq q.res (aq q.holds p) a=true):(bL q p a).2.2=0:=by
 unfold bL
 rw [hS,bz.2 h0,hW,hC]
 simp only [Bool.not_true,cond_false,Option.isSome_none]
 cases decide (aq q.holds p=a) <;> rfl
theorem zw {q:Qu} {p:Pr} {a:Am} (h:(bL q p a).2.2=0):Out q (bL q p a).1 p∧aq (bL q p a).1.holds p=a∧ap (bL q p a).1 p=none:=by
 have ho:=zu h
 obtain ⟨hS,h0,hW,hC,hc⟩:=vM h
 have hd:=aG hS
 rcases hc with ⟨hE,e⟩|⟨_,e⟩
 ·rw [e] at ho ⊢
  exact ⟨ho,hE,hW⟩
 ·rw [e] at ho ⊢
  have h1:=jy (hd.lower hW h0 hC) (p:=p) hW
  refine ⟨ho,h1.1.trans ?_,h1.2⟩
  show aq (cV q.holds p a) p=a
  rw [eL,if_pos rfl]
theorem tE {q:Qu} {p:Pr} (h:(bd q p).2.2=0):ar q=true∧dT q p=true∧bd q p=lJ (fL { q with holds:=cV q.holds p ⟨0,0⟩,convs:=cG q.convs p,waits:=cG q.waits p }):=by
 unfold bd at h ⊢
 cases hS:ar q with
 | false=>rw [hS] at h;simp [bW] at h
 | true =>
  rw [hS] at h
  simp only [Bool.not_true,cond_false] at h ⊢
  cases hH:dT q p with
  | false=>rw [hH] at h;simp [bW] at h
  | true=>exact ⟨by trivial,by trivial,by trivial⟩
theorem vN {q:Qu} {p:Pr} (hS:ar q=true) (hH:dT q p=true):(bd q p).2.2=0:=by unfold bd;rw [hS,hH];rfl
theorem xA {q:Qu} {p:Pr} (h:(bd q p).2.2=0):Out q (bd q p).1 p∧aq (bd q p).1.holds p=⟨0,0⟩∧ap (bd q p).1 p=none:=by
 have ho:=xr h
 obtain ⟨hS,_,e⟩:=tE h
 have hd:=aG hS
 rw [e] at ho ⊢
 have hw:ap { q with holds:=cV q.holds p ⟨0,0⟩,convs:=cG q.convs p,waits:=cG q.waits p } p=none:=by
  have:=jx q p p
  rw [if_pos rfl] at this
  exact this
 have h1:=jy (hd.gone p) hw
 refine ⟨ho,h1.1.trans ?_,h1.2⟩
 show aq (cV q.holds p ⟨0,0⟩) p=_
 rw [eL,if_pos rfl]
structure Ev where
 kind:Int
 proc:Pr
 name:ByteArray
 am:Am
deriving DecidableEq
def aY (n:ByteArray) (l:List Ho):List Ev:=l.map fun h=>⟨1,h.proc,n,h.am⟩
def fA (e:Int):List Qu×List Ev×Int:=([],[],e)
def iQ (t:List Qu) (n:ByteArray):Nat:=(bK n 0 t).toNat
def bQ (t:List Qu) (p:Pr) (a:Tm) (prio:Int):List Qu×List Ev×Int :=
 bif !ez t then fA 2 else bif decide (bK a.name 0 t<0) then fA 10 else
 bif decide ((az t).length=8) && !decide (p∈az t) then fA 4 else
 bif !decide ((bG (t.getD (iQ t a.name) vJ) p a.am prio).2.2=0) then fA (bG (t.getD (iQ t a.name) vJ) p a.am prio).2.2 else
 (t.set (iQ t a.name) (bG (t.getD (iQ t a.name) vJ) p a.am prio).1,aY a.name (bG (t.getD (iQ t a.name) vJ) p a.am prio).2.1,0)
def cM (t:List Qu) (p:Pr) (n:ByteArray):List Qu×List Ev×Int :=
 bif !ez t then fA 2 else bif decide (bK n 0 t<0) then fA 10 else
 bif !decide ((bj (t.getD (iQ t n) vJ) p).2.2=0) then fA (bj (t.getD (iQ t n) vJ) p).2.2 else
 (t.set (iQ t n) (bj (t.getD (iQ t n) vJ) p).1,aY n (bj (t.getD (iQ t n) vJ) p).2.1,0)
def cn (t:List Qu) (p:Pr) (a:Tm):List Qu×List Ev×Int :=
 bif !ez t then fA 2 else bif decide (bK a.name 0 t<0) then fA 10 else
 bif !decide ((bL (t.getD (iQ t a.name) vJ) p a.am).2.2=0) then fA (bL (t.getD (iQ t a.name) vJ) p a.am).2.2 else
 (t.set (iQ t a.name) (bL (t.getD (iQ t a.name) vJ) p a.am).1,(bif decide (aq (t.getD (iQ t a.name) vJ).holds p=a.am) then [] else [⟨3,p,a.name,a.am⟩])++aY a.name (bL (t.getD (iQ t a.name) vJ) p a.am).2.1,0)
def aP (p:Pr):List Qu→List Qu×List Ev
 | []=>([],[])
 | q :: l=>bif !dT q p then (q :: (aP p l).1,(aP p l).2) else
  ((bd q p).1 :: (aP p l).1,(bif aO (aq q.holds p) then [] else [⟨3,p,q.res.name,⟨0,0⟩⟩])++aY (bd q p).1.res.name (bd q p).2.1++(aP p l).2)
def bN (t:List Qu) (p:Pr):List Qu×List Ev:=bif !ez t then ([],[]) else aP p t
structure En where
 name:ByteArray
 before:Am
 after:Am
deriving DecidableEq
structure Sv where
 label:Int
 at_:Int
deriving DecidableEq
def aT (a b:ByteArray):Bool:=a.toList == b.toList
theorem aW {a b:ByteArray}:aT a b=true↔a=b:=rV
theorem cg {a b:ByteArray}:aT a b=false↔a≠b:=by
 rw [←Bool.not_eq_true,aW]
def dk (n:ByteArray):Am→List En→Am
 | a,[]=>a
 | a,e :: l=>dk n (bif aT e.name n then e.after else a) l
def aw (l:List En) (n:ByteArray):Am:=dk n ⟨0,0⟩ l
theorem mL (n:ByteArray):∀(l m:List En) (a:Am),dk n a (l++m)=dk n (dk n a l) m
 | [],_,_=>rfl
 | e :: l,m,a=>mL n l m _
theorem jz (l:List En) (e:En) (n:ByteArray):aw (l++[e]) n=bif aT e.name n then e.after else aw l n:=by
 unfold aw
 rw [mL]
 rfl
def cY (a b:Am):Bool:=aZ b && !decide (a=b) && (aO a || aZ a && (bif !decide (a.mode=0) then dy b.mode a.mode else decide (a.units<b.units)))
def fM (pre:List En):List En→Bool
 | []=>true
 | e :: l=>bJ e.name.toList && decide (e.before=aw pre e.name) && cY e.before e.after && fM (pre++[e]) l
def dD (n:ByteArray):List ByteArray→Bool
 | []=>false
 | m :: l=>aT m n || dD n l
theorem gm {n:ByteArray}:∀{l:List ByteArray},dD n l=true↔n∈l
 | []=>by simp [dD]
 | m :: l=>by
  show (aT m n || dD n l)=true↔_
  rw [Bool.or_eq_true,aW,gm,List.mem_cons]
  exact or_congr_left ⟨Eq.symm,Eq.symm⟩
def gH (n:ByteArray):List ByteArray→List ByteArray
 | []=>[n]
 | m :: l=>bif fy n m then n :: m :: l else m :: gH n l
theorem nT {n x:ByteArray}:∀{l:List ByteArray},x∈gH n l↔x=n∨x∈l
 | []=>by simp [gH]
 | m :: l=>by
  show x∈(bif fy n m then n :: m :: l else m :: gH n l)↔_
  cases fy n m with
  | true=>simp
  | false =>
   rw [cond_false,List.mem_cons,nT,List.mem_cons]
   constructor
   ·rintro (h|h|h) <;> simp [h]
   ·rintro (h|h|h) <;> simp [h]
def dc:List ByteArray→List En→List ByteArray
 | acc,[]=>acc
 | acc,e :: l=>dc (bif dD e.name acc then acc else gH e.name acc) l
def br (l:List En):List ByteArray:=dc [] l
theorem qg {x:ByteArray}:∀{l:List En} {acc:List ByteArray},x∈dc acc l↔x∈acc∨∃e∈l,e.name=x
 | [],acc=>by simp [dc]
 | e :: l,acc=>by
  show x∈dc _ l↔_
  rw [qg]
  have h:x∈(bif dD e.name acc then acc else gH e.name acc)↔x∈acc∨e.name=x:=by
   cases hh:dD e.name acc with
   | true =>
    rw [cond_true]
    constructor
    ·exact .inl
    ·rintro (h|h)
     ·exact h
     ·exact h▸gm.1 hh
   | false =>
    rw [cond_false,nT]
    constructor
    ·rintro (h|h)
     ·exact .inr h.symm
     ·exact .inl h
    ·rintro (h|h)
     ·exact .inr h
     ·exact .inl h.symm
  rw [h]
  constructor
  ·rintro ((h|h)|⟨f,h1,h2⟩)
   ·exact .inl h
   ·exact .inr ⟨e,by simp,h⟩
   ·exact .inr ⟨f,by simp [h1],h2⟩
  ·rintro (h|⟨f,h1,h2⟩)
   ·exact .inl (.inl h)
   ·rcases List.mem_cons.1 h1 with rfl|h1
    ·exact .inl (.inr h2)
    ·exact .inr ⟨f,h1,h2⟩
theorem dl {l:List En} {x:ByteArray}:x∈br l↔∃e∈l,e.name=x:=by unfold br;rw [qg];simp
def iv (l:List ByteArray):Prop:=l.Pairwise fun a b=>fy a b=true
theorem lK {a b:ByteArray} (h1:fy a b=false) (h2:a≠b):fy b a=true:=by
 unfold fy at *
 rw [bytesLess_eq,decide_eq_false_iff_not] at h1
 rw [bytesLess_eq,decide_eq_true_eq]
 rcases Std.lt_trichotomy a.toList b.toList with h|h|h
 ·exact absurd h h1
 ·exact absurd (toList_inj h) h2
 ·exact h
theorem nU {n:ByteArray}:∀{l:List ByteArray},iv l→n ∉ l→iv (gH n l)
 | [],_,_=>by simp [gH,iv]
 | m :: l,h,hn=>by
  obtain ⟨h1,h2⟩:=List.pairwise_cons.1 h
  show iv (bif fy n m then n :: m :: l else m :: gH n l)
  cases hc:fy n m with
  | true =>
   refine List.pairwise_cons.2 ⟨fun x hx=>?_,h⟩
   rcases List.mem_cons.1 hx with rfl|hx
   ·exact hc
   ·exact d9 hc (h1 x hx)
  | false =>
   have hm:fy m n=true:=lK hc (fun e=>hn (by simp [e]))
   refine List.pairwise_cons.2 ⟨fun x hx=>?_,nU h2 (fun hx=>hn (by simp [hx]))⟩
   rcases nT.1 hx with rfl|hx
   ·exact hm
   ·exact h1 x hx
theorem qh:∀{l:List En} {acc:List ByteArray},iv acc→iv (dc acc l)
 | [],_,h=>h
 | e :: l,acc,h=>by
  refine qh (l:=l) ?_
  cases hh:dD e.name acc with
  | true=>exact h
  | false=>exact nU h fun hm=>by rw [gm.2 hm] at hh;cases hh
theorem fR (l:List En):iv (br l):=qh (by simp [iv])
def aJ (n:Int):Nat→List Sv→Int
 | _,[]=>-1
 | k,s :: l=>bif decide (s.label=n) then (k:Int) else aJ n (k+1) l
def mo (all:List Sv) (n:Int):Nat→Int→List Sv→Bool
 | _,_,[]=>true
 | k,at_,s :: l=>decide (1≤s.label) && decide (s.label≤99) && decide (0≤s.at_) && decide (s.at_≤n) && decide (at_≤s.at_) && decide (aJ s.label 0 all=(k:Int)) && mo all n (k+1) s.at_ l
def jV (l:List En) (s:List Sv):Bool:=decide (l.length≤72) && decide (s.length≤4) && fM [] l && decide ((br l).length≤8) && mo s l.length 0 0 s
structure EntOk (pre:List En) (e:En):Prop where
 nm:bJ e.name.toList=true
 bef:e.before=aw pre e.name
 gr:cY e.before e.after=true
def Ents (l:List En):Prop:=∀k (h:k<l.length),EntOk (l.take k) l[k]
theorem uh:∀(l pre:List En),fM pre l=true↔∀k (h:k<l.length),EntOk (pre++l.take k) l[k]
 | [],_=>by simp [fM]
 | e :: l,pre=>by
  show (bJ e.name.toList && decide (e.before=aw pre e.name) && cY e.before e.after && fM (pre++[e]) l)=true↔_
  simp only [Bool.and_eq_true,decide_eq_true_eq,uh l]
  constructor
  ·rintro ⟨⟨⟨h1,h2⟩,h3⟩,h4⟩ k hk
   cases k with
   | zero=>simpa using ⟨h1,h2,h3⟩
   | succ k =>
    have:=h4 k (by simpa using hk)
    simpa [List.append_assoc] using this
  ·intro h
   have h0:=h 0 (by simp)
   simp only [List.take_zero,List.append_nil,List.getElem_cons_zero] at h0
   refine ⟨⟨⟨h0.nm,h0.bef⟩,h0.gr⟩,fun k hk=>?_⟩
   have:=h (k+1) (by simpa using hk)
   simpa [List.append_assoc] using this
theorem xB {l:List En}:fM [] l=true↔Ents l:=by
 rw [uh]
 unfold Ents
 simp
theorem Ents.snoc {l:List En} {e:En}:Ents (l++[e])↔Ents l∧EntOk l e:=by
 constructor
 ·intro h
  refine ⟨fun k hk=>?_,?_⟩
  ·have h1:=h k (by simp;omega)
   rw [List.take_append_of_le_length (by omega),List.getElem_append_left hk] at h1
   exact h1
  ·have h1:=h l.length (by simp)
   simpa using h1
 ·rintro ⟨h1,h2⟩ k hk
  by_cases hl:k<l.length
  ·rw [List.take_append_of_le_length (by omega),List.getElem_append_left hl]
   exact h1 k hl
  ·have:k=l.length:=by simp at hk;omega
   subst this
   simpa using h2
theorem Ents.take {l:List En} (h:Ents l) (n:Nat):Ents (l.take n):=by
 intro k hk
 have h1:k<l.length:=by rw [List.length_take] at hk;omega
 have h2:=h k h1
 have h3:(l.take n).take k=l.take k:=by rw [List.take_take];congr 1;rw [List.length_take] at hk;omega
 rw [h3,List.getElem_take]
 exact h2
theorem nV {P:List En→Prop} (h0:P []) (hs:∀l e,Ents l→EntOk l e→P l→P (l++[e])):∀l,Ents l→P l:=by
 intro l
 have:∀n (l:List En),l.length=n→Ents l→P l:=by
  intro n
  induction n with
  | zero=>intro l hl _;rw [List.eq_nil_of_length_eq_zero hl];exact h0
  | succ n ih =>
   intro l hl h
   have hne:l≠[]:=by rintro rfl;simp at hl
   have e:=List.dropLast_concat_getLast hne
   rw [←e] at h
   obtain ⟨h1,h2⟩:=Ents.snoc.1 h
   rw [←e]
   exact hs _ _ h1 h2 (ih _ (by rw [List.length_dropLast];omega) h1)
 exact this _ l rfl
def Ip (b a:Am):Prop:=a=b∨(aZ a=true∧aZ b=true∧((a.mode≠0∧dy b.mode a.mode=true)∨(a.mode=0∧b.mode=0∧a.units<b.units)))
theorem cw {a:Am} (h:aZ a=true):(cl a.mode=true∧a.units=0)∨(a.mode=0∧1≤a.units∧a.units≤8):=by
 unfold aZ at h
 simp only [Bool.or_eq_true,Bool.and_eq_true,decide_eq_true_eq] at h
 rcases h with h|h
 ·exact .inl h
 ·exact .inr ⟨h.1.1,h.1.2,h.2⟩
theorem fe {m:Int}:cl m=true↔1≤m∧m≤5:=by unfold cl;simp
theorem nW {a b:Int}:dy a b=true↔(1≤a∧a≤5)∧(1≤b∧b≤5)∧(a=b∨a=5∨b=1∨(a=4∧b≠5)):=by
 unfold dy
 simp only [Bool.and_eq_true,Bool.or_eq_true,decide_eq_true_eq,Bool.not_eq_true',decide_eq_false_iff_not,fe]
 constructor
 ·rintro ⟨⟨h1,h2⟩,h3⟩;exact ⟨h1,h2,by rcases h3 with ((h|h)|h)|h <;> simp [h]⟩
 ·rintro ⟨h1,h2,h3⟩;exact ⟨⟨h1,h2⟩,by rcases h3 with h|h|h|h <;> simp [h]⟩
theorem nX {a b:Am} (h:cY a b=true):aZ b=true∧a≠b∧(a=⟨0,0⟩∨(aZ a=true∧Ip b a)):=by
 unfold cY at h
 simp only [Bool.and_eq_true,Bool.not_eq_true',decide_eq_false_iff_not,Bool.or_eq_true] at h
 obtain ⟨⟨h1,h2⟩,h3⟩:=h
 refine ⟨h1,h2,?_⟩
 rcases h3 with h3|⟨h3,h4⟩
 ·exact .inl (of_decide_eq_true h3)
 ·refine .inr ⟨h3,.inr ⟨h3,h1,?_⟩⟩
  by_cases hm:a.mode=0
  ·rw [decide_eq_true hm,Bool.not_true,cond_false,decide_eq_true_eq] at h4
   refine .inr ⟨hm,?_,h4⟩
   rcases cw h1 with ⟨h5,h6⟩|⟨h5,_⟩
   ·rcases cw h3 with ⟨h7,_⟩|⟨_,h7,_⟩
    ·rw [hm] at h7;exact absurd h7 (by decide)
    ·omega
   ·exact h5
  ·rw [decide_eq_false hm,Bool.not_false,cond_true] at h4
   exact .inl ⟨hm,h4⟩
theorem Cf {a b c:Am} (h1:Ip c b) (h2:Ip b a):Ip c a:=by
 rcases h1 with rfl|⟨u1,u2,h1⟩
 ·exact h2
 ·rcases h2 with rfl|⟨u3,_,h2⟩
  ·exact .inr ⟨u1,u2,h1⟩
  ·refine .inr ⟨u3,u2,?_⟩
   rcases h2 with ⟨h3,h4⟩|⟨h3,h4,h5⟩
   ·rcases h1 with ⟨h6,h7⟩|⟨h6,_,_⟩
    ·refine .inl ⟨h3,?_⟩
     rw [nW] at h4 h7 ⊢
     omega
    ·rw [nW] at h4
     omega
   ·rcases h1 with ⟨h6,_⟩|⟨_,h6,h7⟩
    ·exact absurd h4 h6
    ·exact .inr ⟨h3,h6,by omega⟩
def Gc (a:Am):Int:=a.mode+a.units
theorem DV {a b:Am} (h:cY a b=true):Gc a<Gc b∧Gc b≤8:=by
 obtain ⟨h1,h2,h3⟩:=nX h
 obtain ⟨am,au⟩:=a
 obtain ⟨bm,bu⟩:=b
 unfold Gc
 have hb:=cw h1
 simp only [fe] at hb
 dsimp only at *
 rcases h3 with h3|⟨h3,h4⟩
 ·injection h3 with e1 e2
  subst e1
  subst e2
  omega
 ·have ha:=cw h3
  simp only [fe] at ha
  rcases h4 with h4|⟨_,_,h4⟩
  ·exact absurd h4 h2
  ·dsimp only at h4
   rcases h4 with ⟨h5,h6⟩|⟨h5,h6,h7⟩
   ·rw [nW] at h6
    have:¬(am=bm∧au=bu):=fun e=>h2 (by rw [e.1,e.2])
    omega
   ·omega
theorem ui {l:List En} (h:Ents l) (n:ByteArray):∀k,aw (l.take k) n=⟨0,0⟩∨Ip (aw l n) (aw (l.take k) n):=by
 refine nV (P:=fun l=>∀k,aw (l.take k) n=⟨0,0⟩∨Ip (aw l n) (aw (l.take k) n)) (fun k=>.inl (by simp [aw,dk])) ?_ l h
 intro l e _ he ih k
 by_cases hk:k≤l.length
 ·rw [List.take_append_of_le_length hk,jz]
  rcases ih k with h1|h1
  ·exact .inl h1
  ·cases hn:aT e.name n with
   | false=>exact .inr h1
   | true =>
    have hnn:=aW.1 hn
    subst hnn
    rw [cond_true]
    obtain ⟨_,_,h2⟩:=nX he.gr
    rw [he.bef] at h2
    rcases h2 with h2|⟨_,h2⟩
    ·rw [h2] at h1
     rcases h1 with h1|⟨h1,h3,_⟩
     ·exact .inl h1
     ·exact absurd h3 (by decide)
    ·exact .inr (Cf h2 h1)
 ·rw [List.take_of_length_le (by simp;omega)]
  exact .inr (.inl rfl)
theorem DX {l:List En} (h:Ents l) (n:ByteArray):((l.filter fun e=>aT e.name n).length:Int)≤Gc (aw l n)∧Gc (aw l n)≤8:=by
 refine nV (P:=fun l=>((l.filter fun e=>aT e.name n).length:Int)≤Gc (aw l n)∧Gc (aw l n)≤8) ⟨by simp [aw,dk,Gc],by simp [aw,dk,Gc]⟩ ?_ l h
 intro l e _ he ih
 rw [jz,List.filter_append,List.length_append]
 cases hn:aT e.name n with
 | false =>
  have:[e].filter (fun e=>aT e.name n)=[]:=by simp [hn]
  rw [this]
  simpa using ih
 | true =>
  have hnn:=aW.1 hn
  subst hnn
  have:[e].filter (fun x=>aT x.name e.name)=[e]:=by simp [aT]
  rw [this,cond_true]
  have h1:=DV he.gr
  rw [he.bef] at h1
  simp only [List.length_singleton]
  omega
theorem rX {α:Type} (p:α→Bool):∀l:List α,l.length=(l.filter p).length+(l.filter fun x=>!p x).length
 | []=>rfl
 | x :: l=>by
  have:=rX p l
  rw [List.filter_cons,List.filter_cons,List.length_cons]
  cases p x with
  | true=>simp;omega
  | false=>simp;omega
theorem uj:∀(ns:List ByteArray) (l:List En),(∀e∈l,e.name∈ns)→(∀n∈ns,(l.filter fun e=>aT e.name n).length≤8)→l.length≤8*ns.length
 | [],l,h,_=>by
  cases l with
  | nil=>simp
  | cons e l=>exact absurd (h e (by simp)) (by simp)
 | n :: ns,l,h,hc=>by
  have h1:=uj ns (l.filter fun e=>!aT e.name n) (fun e he=>by
   have h2:=(List.mem_filter.1 he)
   rcases List.mem_cons.1 (h e h2.1) with h3|h3
   ·have:=h2.2
    rw [Bool.not_eq_true',cg] at this
    exact absurd h3 this
   ·exact h3) (fun m hm=>Nat.le_trans (((List.filter_sublist (p:=fun e:En=>!aT e.name n) (l:=l)).filter fun e=>aT e.name m).length_le) (hc m (by simp [hm])))
  have h2:=hc n (by simp)
  have h3:=rX (fun e:En=>aT e.name n) l
  rw [List.length_cons]
  omega
theorem xC {l:List En} (h:Ents l) (hn:(br l).length≤8):l.length≤64:=by
 have:=uj (br l) l (fun e he=>dl.2 ⟨e,he,rfl⟩) (fun n _=>by have:=DX h n;omega)
 omega
structure Lg where
 entries:List En
 saves:List Sv
deriving DecidableEq
def qi (g:Lg):Bool:=jV g.entries g.saves
def Lg.zero:Lg:=⟨[],[]⟩
structure Svs (s:List Sv) (n:Int):Prop where
 lab:∀x∈s,(1≤x.label∧x.label≤99)∧0≤x.at_∧x.at_≤n
 ord:s.Pairwise fun a b=>a.at_≤b.at_
 nd:(s.map (·.label)).Nodup
theorem qj {n:Int}:∀{l:List Sv} {k:Nat},(∀x∈l,x.label≠n)→aJ n k l = -1
 | [],_,_=>rfl
 | x :: l,k,h=>by
  show (bif decide (x.label=n) then (k:Int) else aJ n (k+1) l) = -1
  rw [decide_eq_false (h x (by simp)),cond_false]
  exact qj fun y hy=>h y (by simp [hy])
theorem iC {n:Int}:∀{l:List Sv} {k:Nat},0≤aJ n k l→∃i,∃h:i<l.length,aJ n k l=((k+i:Nat):Int)∧l[i].label=n
 | [],k,h=>by simp [aJ] at h
 | x :: l,k,h=>by
  have e:aJ n k (x :: l)=bif decide (x.label=n) then (k:Int) else aJ n (k+1) l:=rfl
  rw [e] at h ⊢
  by_cases hx:x.label=n
  ·exact ⟨0,by simp,by rw [decide_eq_true hx];simp,hx⟩
  ·rw [decide_eq_false hx,cond_false] at h ⊢
   obtain ⟨i,hi,h1,h2⟩:=iC h
   exact ⟨i+1,by simpa using hi,by rw [h1];omega,by simpa using h2⟩
theorem rY {n:Int} {l:List Sv} {k:Nat}:aJ n k l<0↔∀x∈l,x.label≠n:=by
 constructor
 ·intro h x hx e
  have gen:∀(l:List Sv) (k:Nat),x∈l→0≤aJ n k l:=by
   intro l
   induction l with
   | nil=>intro _ h;cases h
   | cons y l ih =>
    intro k h
    show 0≤(bif decide (y.label=n) then (k:Int) else aJ n (k+1) l)
    rcases List.mem_cons.1 h with rfl|h
    ·rw [decide_eq_true e,cond_true];omega
    ·cases decide (y.label=n) with
     | true=>rw [cond_true];omega
     | false=>exact ih (k+1) h
  have:=gen l k hx
  omega
 ·intro h
  rw [qj h]
  omega
theorem rZ {n:Int}:∀(pre:List Sv) (k:Nat) (x:Sv) (l:List Sv),x.label=n→(aJ n k (pre++x :: l)=((k+pre.length:Nat):Int)↔∀y∈pre,y.label≠n)
 | [],k,x,l,h=>by
  have:aJ n k (x :: l)=bif decide (x.label=n) then (k:Int) else aJ n (k+1) l:=rfl
  simp [this,h]
 | y :: pre,k,x,l,h=>by
  have e:aJ n k ((y :: pre)++x :: l)=bif decide (y.label=n) then (k:Int) else aJ n (k+1) (pre++x :: l):=rfl
  rw [e,List.length_cons]
  by_cases hy:y.label=n
  ·rw [decide_eq_true hy,cond_true]
   constructor
   ·intro h;omega
   ·intro h2;exact absurd hy (h2 y (by simp))
  ·rw [decide_eq_false hy,cond_false]
   have ih:=rZ pre (k+1) x l h
   have e1:((k+(pre.length+1):Nat):Int)=((k+1+pre.length:Nat):Int):=by omega
   rw [e1,ih]
   constructor
   ·intro h2 z hz
    rcases List.mem_cons.1 hz with rfl|hz
    ·exact hy
    ·exact h2 z hz
   ·intro h2 z hz;exact h2 z (by simp [hz])
theorem r6 (n:Int):∀(l pre:List Sv) (a:Int),0≤a→(pre.map (·.label)).Nodup→(mo (pre++l) n pre.length a l=true↔(∀x∈l,(1≤x.label∧x.label≤99)∧0≤x.at_∧x.at_≤n)∧(l.Pairwise fun x y=>x.at_≤y.at_)∧(∀x∈l,a≤x.at_)∧((pre++l).map (·.label)).Nodup)
 | [],pre,a,_,hp=>by
  simpa [mo] using hp
 | x :: l,pre,a,ha,hp=>by
  show (decide (1≤x.label) && decide (x.label≤99) && decide (0≤x.at_) && decide (x.at_≤n) && decide (a≤x.at_) && decide (aJ x.label 0 (pre++x :: l)=(pre.length:Int)) && mo (pre++x :: l) n (pre.length+1) x.at_ l)=true↔_
  simp only [Bool.and_eq_true,decide_eq_true_eq]
  have hf:aJ x.label 0 (pre++x :: l)=(pre.length:Int)↔∀y∈pre,y.label≠x.label:=by
   have:=rZ pre 0 x l rfl
   rwa [Nat.zero_add] at this
  have hpx:((pre++[x]).map (·.label)).Nodup↔∀y∈pre,y.label≠x.label:=by
   rw [List.map_append,List.nodup_append]
   constructor
   ·rintro ⟨_,_,h⟩ y hy
    exact h y.label (List.mem_map.2 ⟨y,hy,rfl⟩) x.label (by simp)
   ·intro h
    refine ⟨hp,by simp,?_⟩
    intro u hu v hv
    obtain ⟨y,hy,rfl⟩:=List.mem_map.1 hu
    simp at hv
    subst hv
    exact h y hy
  have e1:pre++x :: l=(pre++[x])++l:=by simp
  have e2:pre.length+1=(pre++[x]).length:=by simp
  rw [hf]
  constructor
  ·rintro ⟨⟨⟨⟨⟨⟨h1,h2⟩,h3⟩,h4⟩,h5⟩,h6⟩,h7⟩
   rw [e1,e2,r6 n l (pre++[x]) x.at_ h3 (hpx.2 h6)] at h7
   obtain ⟨k1,k2,k3,k4⟩:=h7
   refine ⟨?_,List.pairwise_cons.2 ⟨k3,k2⟩,?_,by rw [e1];exact k4⟩
   ·intro y hy
    rcases List.mem_cons.1 hy with rfl|hy
    ·exact ⟨⟨h1,h2⟩,h3,h4⟩
    ·exact k1 y hy
   ·intro y hy
    rcases List.mem_cons.1 hy with rfl|hy
    ·exact h5
    ·have:=k3 y hy;omega
  ·rintro ⟨h1,h2,h3,h4⟩
   obtain ⟨k1,k2⟩:=List.pairwise_cons.1 h2
   have hx:=h1 x (by simp)
   rw [e1] at h4
   have h6:∀y∈pre,y.label≠x.label:=hpx.1 (by rw [List.map_append] at h4;exact (List.nodup_append.1 h4).1)
   refine ⟨⟨⟨⟨⟨⟨hx.1.1,hx.1.2⟩,hx.2.1⟩,hx.2.2⟩,h3 x (by simp)⟩,h6⟩,?_⟩
   rw [e1,e2,r6 n l (pre++[x]) x.at_ hx.2.1 (hpx.2 h6)]
   exact ⟨fun y hy=>h1 y (by simp [hy]),k2,k1,h4⟩
structure Ld (g:Lg):Prop where
 slen:g.saves.length≤4
 ents:Ents g.entries
 nms:(br g.entries).length≤8
 svs:Svs g.saves g.entries.length
theorem f5 {g:Lg}:qi g=true↔Ld g:=by
 unfold qi jV
 simp only [Bool.and_eq_true,decide_eq_true_eq,xB]
 have h:=r6 (g.entries.length:Int) g.saves [] 0 (Int.le_refl _) (by simp)
 simp only [List.nil_append,List.length_nil] at h
 rw [h]
 constructor
 ·rintro ⟨⟨⟨⟨h1,h2⟩,h3⟩,h4⟩,h5,h6,h7,h8⟩
  exact ⟨h2,h3,h4,h5,h6,h8⟩
 ·rintro ⟨h2,h3,h4,h5,h6,h8⟩
  exact ⟨⟨⟨⟨by have:=xC h3 h4;omega,h2⟩,h3⟩,h4⟩,h5,h6,fun x hx=>(h5 x hx).2.1,h8⟩
def gI (g:Lg) (e:En):Lg×Int:=bif !qi g then (.zero,2) else bif !qi ⟨g.entries++[e],g.saves⟩ then (.zero,1) else (⟨g.entries++[e],g.saves⟩,0)
def iD (g:Lg) (n:Int):Lg×Int :=
 bif !qi g then (.zero,2) else bif !(decide (1≤n) && decide (n≤99)) then (.zero,1) else bif decide (0≤aJ n 0 g.saves) then (.zero,11) else bif decide (g.saves.length=4) then (.zero,4) else (⟨g.entries,g.saves++[⟨n,g.entries.length⟩]⟩,0)
def bp (g:Lg) (n:Int):Lg:=bif decide (n=0) then ⟨[],[]⟩ else ⟨g.entries.take ((g.saves.getD (aJ n 0 g.saves).toNat ⟨0,0⟩).at_).toNat,g.saves.take ((aJ n 0 g.saves).toNat+1)⟩
def b9 (g:Lg) (n:Int):Lg×List Tm×Int :=
 bif !qi g then (.zero,[],2) else bif !decide (n=0) && decide (aJ n 0 g.saves<0) then (.zero,[],10) else
 (bp g n,(br (g.entries.drop (bp g n).entries.length)).map fun m=>⟨m,aw (bp g n).entries m⟩,0)
def oth (n:ByteArray) (e:En):Bool:=!aT e.name n
def ia (g:Lg) (n:ByteArray):Lg:=⟨g.entries.filter (oth n),g.saves.map fun s=>⟨s.label,((g.entries.take s.at_.toNat).filter (oth n)).length⟩⟩
def kv (g:Lg) (n:ByteArray):Lg×Bool:=bif !qi g then (.zero,false) else bif decide ((ia g n).entries.length=g.entries.length) then (.zero,false) else (ia g n,true)
def ib (g:Lg):List Tm:=((br g.entries).map fun m=>(⟨m,aw g.entries m⟩:Tm)).filter fun a=>!aO a.am
theorem jA {l:List ByteArray} (h:iv l):l.Nodup:=h.imp fun {a b} (hab:fy a b=true) (e:a=b)=>by rw [e,dj] at hab;cases hab
theorem pm {α:Type} [DecidableEq α] {l m:List α} (hn:l.Nodup) (hs:∀x∈l,x∈m):l.length≤m.length:=by
 induction l generalizing m with
 | nil=>exact Nat.zero_le _
 | cons x l ih =>
  rw [List.nodup_cons] at hn
  have hx:=hs x (by simp)
  have h1:=ih (m:=m.erase x) hn.2 fun y hy=>(List.mem_erase_of_ne (fun (e:y=x)=>hn.1 (e▸hy))).2 (hs y (by simp [hy]))
  have h2:=List.length_erase_of_mem hx
  have h3:=List.length_pos_of_mem hx
  rw [List.length_cons]
  omega
theorem uk {l m:List En} (h:∀e∈l,e∈m):(br l).length≤(br m).length :=
 pm (jA (fR l)) fun x hx=>by
  obtain ⟨e,he,hn⟩:=dl.1 hx
  exact dl.2 ⟨e,h e he,hn⟩
theorem Svs.mono {s:List Sv} {n m:Int} (h:Svs s n) (hm:n≤m):Svs s m:=⟨fun x hx=>⟨(h.lab x hx).1,(h.lab x hx).2.1,by have:=(h.lab x hx).2.2;omega⟩,h.ord,h.nd⟩
theorem Cg {g:Lg} (h:Ld g) {e:En} (hn:bJ e.name.toList=true) (hb:e.before=aw g.entries e.name) (hg:cY e.before e.after=true) {ns:List ByteArray} (hns:ns.length≤8) (h1:∀x∈g.entries,x.name∈ns) (h2:e.name∈ns) :
  gI g e=(⟨g.entries++[e],g.saves⟩,0)∧Ld ⟨g.entries++[e],g.saves⟩:=by
 have hl:Ld ⟨g.entries++[e],g.saves⟩:=by
  refine ⟨h.slen,Ents.snoc.2 ⟨h.ents,hn,hb,hg⟩,?_,h.svs.mono (by show (g.entries.length:Int)≤((g.entries++[e]).length:Nat);rw [List.length_append];omega)⟩
  have:=pm (m:=ns) (jA (fR (g.entries++[e]))) fun x hx=>by
   obtain ⟨f,hf,hfx⟩:=dl.1 hx
   rcases List.mem_append.1 hf with hf|hf
   ·exact hfx▸h1 f hf
   ·rw [List.mem_singleton] at hf
    subst hf
    exact hfx▸h2
  show (br (g.entries++[e])).length≤8
  omega
 refine ⟨?_,hl⟩
 unfold gI
 rw [f5.2 h,f5.2 hl]
 rfl
theorem GS {g:Lg} {n:Int} (h:(iD g n).2=0):Ld g∧iD g n=(⟨g.entries,g.saves++[⟨n,g.entries.length⟩]⟩,0)∧Ld ⟨g.entries,g.saves++[⟨n,g.entries.length⟩]⟩:=by
 unfold iD at h ⊢
 cases hV:qi g with
 | false=>rw [hV] at h;simp at h
 | true =>
  have hl:=f5.1 hV
  rw [hV] at h
  simp only [Bool.not_true,cond_false] at h ⊢
  cases hA:decide (1≤n) && decide (n≤99) with
  | false=>rw [hA] at h;simp at h
  | true =>
   rw [hA] at h
   simp only [Bool.not_true,cond_false] at h ⊢
   simp only [Bool.and_eq_true,decide_eq_true_eq] at hA
   by_cases hF:0≤aJ n 0 g.saves
   ·rw [decide_eq_true hF] at h;simp at h
   ·rw [decide_eq_false hF] at h ⊢
    simp only [cond_false] at h ⊢
    by_cases h4:g.saves.length=4
    ·rw [decide_eq_true h4] at h;simp at h
    ·rw [decide_eq_false h4]
     refine ⟨hl,rfl,by have:=hl.slen;simp;omega,hl.ents,hl.nms,?_,?_,?_⟩
     ·intro x hx
      rcases List.mem_append.1 hx with hx|hx
      ·exact hl.svs.lab x hx
      ·rw [List.mem_singleton] at hx
       subst hx
       exact ⟨hA,by simp,by simp⟩
     ·rw [List.pairwise_append]
      refine ⟨hl.svs.ord,by simp,?_⟩
      intro x hx y hy
      rw [List.mem_singleton] at hy
      subst hy
      exact (hl.svs.lab x hx).2.2
     ·rw [List.map_append,List.nodup_append]
      refine ⟨hl.svs.nd,by simp,?_⟩
      intro u hu v hv
      obtain ⟨y,hy,rfl⟩:=List.mem_map.1 hu
      simp at hv
      subst hv
      exact (rY (k:=0)).1 (by omega) y hy
theorem GT {g:Lg} {n:Int} (h:(b9 g n).2.2=0):Ld g∧Ld (bp g n)∧b9 g n=(bp g n,(br (g.entries.drop (bp g n).entries.length)).map fun m=>⟨m,aw (bp g n).entries m⟩,0)∧(bp g n).entries=g.entries.take (bp g n).entries.length:=by
 unfold b9 at h ⊢
 cases hV:qi g with
 | false=>rw [hV] at h;simp at h
 | true =>
  have hl:=f5.1 hV
  rw [hV] at h
  simp only [Bool.not_true,cond_false] at h ⊢
  cases hA : !decide (n=0) && decide (aJ n 0 g.saves<0) with
  | true=>rw [hA] at h;simp at h
  | false =>
   refine ⟨hl,?_,rfl,?_⟩
   ·unfold bp
    by_cases h0:n=0
    ·rw [decide_eq_true h0,cond_true]
     exact ⟨by simp,fun k hk=>absurd hk (by simp),by simp [br,dc],fun x hx=>absurd hx (by simp),by simp,by simp⟩
    ·rw [decide_eq_false h0] at hA ⊢
     simp only [Bool.not_false,Bool.true_and,decide_eq_false_iff_not] at hA
     obtain ⟨i,hi,e1,e2⟩:=iC (n:=n) (l:=g.saves) (k:=0) (by omega)
     have e3:(aJ n 0 g.saves).toNat=i:=by rw [e1];omega
     rw [e3,cond_false]
     have e4:g.saves.getD i ⟨0,0⟩=g.saves[i]:=by simp [hi]
     rw [e4]
     have hsi:=hl.svs.lab g.saves[i] (List.getElem_mem hi)
     refine ⟨by have:=hl.slen;simp;omega,hl.ents.take _,Nat.le_trans (uk fun e he=>List.mem_of_mem_take he) hl.nms,?_,?_,?_⟩
     ·intro x hx
      have h1:=hl.svs.lab x (List.mem_of_mem_take hx)
      refine ⟨h1.1,h1.2.1,?_⟩
      obtain ⟨j,hj,e⟩:=List.mem_iff_getElem.1 hx
      rw [List.getElem_take] at e
      have hj2:j<g.saves.length:=by rw [List.length_take] at hj;omega
      have hji:j≤i:=by rw [List.length_take] at hj;omega
      have h2:g.saves[j].at_≤g.saves[i].at_:=by
       rcases Nat.lt_or_eq_of_le hji with hlt|rfl
       ·exact List.pairwise_iff_getElem.1 hl.svs.ord j i hj2 hi hlt
       ·exact Int.le_refl _
      rw [e] at h2
      show x.at_≤((g.entries.take g.saves[i].at_.toNat).length:Nat)
      rw [List.length_take]
      omega
     ·exact hl.svs.ord.sublist (List.take_sublist _ _)
     ·exact hl.svs.nd.sublist ((List.take_sublist _ _).map _)
   ·unfold bp
    cases decide (n=0) with
    | true=>simp
    | false =>
     simp only [cond_false]
     rw [List.length_take]
     rcases Nat.le_total (g.saves.getD (aJ n 0 g.saves).toNat ⟨0,0⟩).at_.toNat g.entries.length with h|h
     ·rw [Nat.min_eq_left h]
     ·rw [Nat.min_eq_right h,List.take_of_length_le h,List.take_length]
theorem kx (n m:ByteArray):∀(l:List En) (a:Am),(m=n→a=⟨0,0⟩)→dk m a (l.filter (oth n))=if m=n then ⟨0,0⟩ else dk m a l
 | [],a,ha=>by
  by_cases h:m=n
  ·simp [dk,h,ha h]
  ·simp [dk,h]
 | e :: l,a,ha=>by
  rw [List.filter_cons]
  unfold oth
  cases he:aT e.name n with
  | true =>
   have hen:=aW.1 he
   simp only [Bool.not_true,Bool.false_eq_true,if_false]
   rw [show (List.filter (fun e=>!aT e.name n) l)=l.filter (oth n) from rfl,kx n m l a ha]
   by_cases h:m=n
   ·rw [if_pos h,if_pos h]
   ·rw [if_neg h,if_neg h]
    have:aT e.name m=false:=cg.2 fun h2=>h (h2.symm.trans hen)
    show dk m a l=dk m (bif aT e.name m then e.after else a) l
    rw [this]
    rfl
  | false =>
   have hen:=cg.1 he
   simp only [Bool.not_false,if_true]
   show dk m (bif aT e.name m then e.after else a) (l.filter (oth n))=_
   rw [kx n m l _ (fun h=>by
    have:aT e.name m=false:=cg.2 fun h2=>hen (h2.trans h)
    rw [this]
    exact ha h)]
   rfl
theorem jB (n m:ByteArray) (l:List En):aw (l.filter (oth n)) m=if m=n then ⟨0,0⟩ else aw l m:=kx n m l _ fun _=>rfl
theorem xD {l:List En} (h:Ents l) (n:ByteArray):Ents (l.filter (oth n)):=by
 refine nV (P:=fun l=>Ents (l.filter (oth n))) (fun k hk=>absurd hk (by simp)) ?_ l h
 intro l e _ he ih
 rw [List.filter_append]
 cases ho:oth n e with
 | false =>
  have:[e].filter (oth n)=[]:=by simp [ho]
  rw [this,List.append_nil]
  exact ih
 | true =>
  have:[e].filter (oth n)=[e]:=by simp [ho]
  rw [this]
  have hne:e.name≠n:=by unfold oth at ho;rw [Bool.not_eq_true',cg] at ho;exact ho
  exact Ents.snoc.2 ⟨ih,he.nm,by rw [jB,if_neg hne];exact he.bef,he.gr⟩
theorem pn {α:Type} (p:α→Bool) (l:List α) {i j:Nat} (h:i≤j):((l.take i).filter p).length≤((l.take j).filter p).length:=by
 have:l.take i=(l.take j).take i:=by rw [List.take_take];congr 1;omega
 rw [this]
 exact ((List.take_sublist i (l.take j)).filter p).length_le
theorem GU {g:Lg} (h:Ld g) (n:ByteArray):Ld (ia g n):=by
 unfold ia
 refine ⟨by have:=h.slen;simpa using this,xD h.ents n,Nat.le_trans (uk fun e he=>(List.mem_filter.1 he).1) h.nms,?_,?_,?_⟩
 ·intro x hx
  obtain ⟨s,hs,rfl⟩:=List.mem_map.1 hx
  have h1:=h.svs.lab s hs
  refine ⟨h1.1,Int.natCast_nonneg _,?_⟩
  have:=((List.take_sublist s.at_.toNat g.entries).filter (oth n)).length_le
  show (((g.entries.take s.at_.toNat).filter (oth n)).length:Int)≤((g.entries.filter (oth n)).length:Nat)
  omega
 ·rw [List.pairwise_map]
  exact h.svs.ord.imp fun {a b} (hab:a.at_≤b.at_)=>by
   have:=pn (oth n) g.entries (i:=a.at_.toNat) (j:=b.at_.toNat) (by omega)
   show ((_:Nat):Int)≤((_:Nat):Int)
   omega
 ·rw [List.map_map]
  exact h.svs.nd
structure Rq where
 expr:Ex
 prio:Int
 limit:Int
def Rq.zero:Rq:=⟨Ex.zero,0,0⟩
structure Pc where
 proc:Pr
 cost:Int
 led:Lg
 waiting:Bool
 req:Rq
 since:Int
 gen:Int
def Gd:Pc:=⟨⟨0,0,0⟩,0,Lg.zero,false,Rq.zero,0,0⟩
structure Cs where
 now:Int
 queues:List Qu
 procs:List Pc
def LF:Cs:=⟨0,[],[]⟩
structure Cm where
 kind:Int
 proc:Pr
 req:Rq
 name:ByteArray
 n:Int
def aV (t:List Qu) (n:ByteArray):Bool:=decide (0≤bK n 0 t)
def bf (t:List Qu) (n:ByteArray):Qu:=t.getD (iQ t n) vJ
def bC (t:List Qu) (p:Pr) (x:Ex):List Bool:=(cP x).map fun a=>aV t a.name && bq (bf t a.name).res (aq (bf t a.name).holds p) a.am
def gF (t:List Qu):List Tm→Int
 | []=>0
 | a :: l=>bif !aV t a.name then 10 else bif !aH (bf t a.name).res a.am then 12 else gF t l
def iy (t:List Qu) (x:Ex):Int:=bif !nE x then 1 else gF t (cP x)
def qL (r:Rq):Bool:=nE r.expr && decide (0≤r.prio) && decide (r.prio≤7) && decide (0≤r.limit) && decide (r.limit≤1000)
def GV (x:Ex):Bool:=decide (x.k=0) && decide (x.atom=jO) && x.kids.isEmpty
def Jd (r:Rq):Bool:=GV r.expr && decide (r.prio=0) && decide (r.limit=0)
theorem GX {x:Ex}:GV x=true↔x=Ex.zero:=by
 obtain ⟨k,a,l⟩:=x
 unfold GV Ex.zero
 simp only [Bool.and_eq_true,decide_eq_true_eq,List.isEmpty_iff]
 show (k=0∧a=jO)∧l=[]↔_
 constructor
 ·rintro ⟨⟨rfl,rfl⟩,rfl⟩;rfl
 ·intro h
  injection h with h1 h2 h3
  exact ⟨⟨h1,h2⟩,h3⟩
theorem GY {r:Rq}:Jd r=true↔r=Rq.zero:=by
 obtain ⟨x,p,l⟩:=r
 unfold Jd Rq.zero
 simp only [Bool.and_eq_true,decide_eq_true_eq,GX]
 constructor
 ·rintro ⟨⟨rfl,rfl⟩,rfl⟩;rfl
 ·intro h
  injection h with h1 h2 h3
  exact ⟨⟨h1,h2⟩,h3⟩
def go (t:List Qu) (p:Pr):List Tm:=(t.map fun q=>(⟨q.res.name,aq q.holds p⟩:Tm)).filter fun a=>!aO a.am
def cy (p:Pr):List Qu→List Tm
 | []=>[]
 | q :: l=>match ap q p with
  | some a=>⟨q.res.name,a⟩ :: cy p l
  | none=>cy p l
def dE (q:Qu) (x:Pc):List Tm→Bool
 | []=>decide (aq q.holds x.proc=aw x.led.entries q.res.name) && !(ap q x.proc).isSome
 | a :: l=>bif !aT a.name q.res.name || bq q.res (aw x.led.entries q.res.name) a.am then dE q x l else
  bif !(ap q x.proc).isSome then decide (aq q.holds x.proc=bV q.res (aw x.led.entries q.res.name) a.am) else
  bif q.waits.any (fun y=>decide (y.proc=x.proc) && !decide (y.prio=x.req.prio)) then false else
  decide (aq q.holds x.proc=aw x.led.entries q.res.name) && decide (ap q x.proc=some (bV q.res (aw x.led.entries q.res.name) a.am))
def qk (c:Cs) (x:Pc):Bool :=
 fI x.proc && decide (1≤x.cost) && decide (x.cost≤1000) && qi x.led && decide (0≤x.gen) && decide (x.gen≤1073741824) &&
 (ib x.led).all (fun a=>aV c.queues a.name && aH (bf c.queues a.name).res a.am) &&
 bif !x.waiting then Jd x.req && decide (x.since=0) && decide (ib x.led=go c.queues x.proc) && decide (cy x.proc c.queues=[]) else
 qL x.req && decide (iy c.queues x.req.expr=0) && decide (0≤x.since) && decide (x.since≤c.now) && (decide (x.req.limit=0) || decide (c.now<x.since+x.req.limit)) &&
 !ew x.req.expr (bC c.queues x.proc x.req.expr) && c.queues.all (fun q=>dE q x (cP x.req.expr))
def fo (p:Pr):Nat→List Pc→Int
 | _,[]=>-1
 | k,x :: l=>bif decide (x.proc=p) then (k:Int) else fo p (k+1) l
def xE (c:Cs):Option Pr→List Pc→Bool
 | _,[]=>true
 | o,x :: l=>qk c x && Io o x.proc && xE c (some x.proc) l
def fB (c:Cs):Bool:=decide (0≤c.now) && decide (c.now≤1073741824) && ez c.queues && decide (c.procs.length≤8) && (az c.queues).all (fun p=>decide (0≤fo p 0 c.procs)) && xE c none c.procs
structure Wk where
 c:Cs
 ev:List Ev
def Wk.take (w:Wk) (t:List Qu) (ev:List Ev):Wk:=⟨{ w.c with queues:=t },w.ev++ev⟩
def Wk.note (w:Wk) (k:Int) (p:Pr):Wk:=⟨w.c,w.ev++[⟨k,p,⟨#[]⟩,⟨0,0⟩⟩]⟩
def Wk.pc (w:Wk) (i:Nat):Pc:=w.c.procs.getD i Gd
def Wk.setP (w:Wk) (i:Nat) (x:Pc):Wk:=⟨{ w.c with procs:=w.c.procs.set i x },w.ev⟩
def lL (w:Wk) (p:Pr) (n:ByteArray):Wk:=w.take (cM w.c.queues p n).1 (cM w.c.queues p n).2.1
def eX (w:Wk) (p:Pr) (a:Tm):Wk:=w.take (cn w.c.queues p a).1 (cn w.c.queues p a).2.1
def ic (w:Wk) (p:Pr) (n:ByteArray):Wk:=bif (ap (bf w.c.queues n) p).isSome then lL w p n else w
def cI (w:Wk) (p:Pr) (n:ByteArray) (l:Am):Wk:=bif decide (aq (bf w.c.queues n).holds p=l) then w else eX w p ⟨n,l⟩
def bS (w:Wk) (x:Pc) (n:ByteArray):Wk:=cI (ic w x.proc n) x.proc n (aw x.led.entries n)
def el (w:Wk) (i:Nat):Wk:=w.setP i { w.pc i with waiting:=false,req:=Rq.zero,since:=0 }
def be (w:Wk) (i:Nat):Wk:=w.setP i { w.pc i with gen:=bh (w.pc i).gen }
def eC (x:Pc):List Tm→Wk→Wk
 | [],w=>w
 | a :: l,w=>eC x l (bS w x a.name)
def ay (w:Wk) (i:Nat):Wk:=el (eC (w.pc i) (cP (w.pc i).req.expr) w) i
def dY (t:List Qu) (x:Pc):Bool:=x.waiting && ew x.req.expr (bC t x.proc x.req.expr)
def eO (t:List Qu):Nat→List Pc→Option Nat
 | _,[]=>none
 | k,x :: l=>bif dY t x then some k else eO t (k+1) l
def ie (x:Ex) (L:List Tm):Nat→List Bool→List Bool
 | 0,out=>out
 | i+1,out=>ie x L i (bif out.getD i false then out.set i (!y9 (fd L (out.set i false)) x) else out)
def cJ (x:Ex) (set:List Bool):List Bool :=
 bif ew x set then ie x (cP x) (cP x).length ((List.range (cP x).length).map fun i=>set.getD i false) else List.replicate (cP x).length false
def iM (w:Wk) (i:Nat) (p:Pr) (n:ByteArray):Wk :=
 bif decide (aq (bf w.c.queues n).holds p=aw (w.pc i).led.entries n) then w else
 w.setP i { w.pc i with led:=(gI (w.pc i).led ⟨n,aw (w.pc i).led.entries n,aq (bf w.c.queues n).holds p⟩).1 }
def dd (x:Pc) (i:Nat):List Tm→List Bool→Wk→Wk
 | a :: l,b :: bs,w=>dd x i l bs (bif b then iM w i x.proc a.name else bS w x a.name)
 | _,_,w=>w
def jW (w:Wk) (i:Nat):Wk :=
 be (el (dd (w.pc i) i (cP (w.pc i).req.expr) (cJ (w.pc i).req.expr (bC w.c.queues (w.pc i).proc (w.pc i).req.expr)) (w.note 2 (w.pc i).proc)) i) i
def aU:Nat→Wk→Wk
 | 0,w=>w
 | n+1,w=>match eO w.c.queues 0 w.c.procs with
  | none=>w
  | some i=>aU n (jW w i)
def bX (w:Wk):Wk:=aU w.c.procs.length w
def iE (w:Wk) (i:Nat):Wk :=
 bX (Wk.note ⟨{ w.c with queues:=(bN w.c.queues (w.pc i).proc).1,procs:=w.c.procs.eraseIdx i },w.ev++(bN w.c.queues (w.pc i).proc).2⟩ 5 (w.pc i).proc)
def i8 (now:Int):Nat→List Pc→Int×Int→Int×Int
 | _,[],b=>b
 | k,x :: l,b=>i8 now (k+1) l (bif x.waiting && !decide (x.req.limit=0) && decide (x.since+x.req.limit≤now) && (decide (b.1<0) || decide (x.since+x.req.limit<b.2)) then ((k:Int),x.since+x.req.limit) else b)
def eY (w:Wk):Int:=(i8 w.c.now 0 w.c.procs (-1,0)).1
def nY (x:Pc):List Pc→List Pc
 | []=>[x]
 | y :: l=>bif decide (0<cU y.proc x.proc) then x :: y :: l else y :: nY x l
def mu (w:Wk) (p:Pr) (cost:Int):Wk×Int :=
 bif !(fI p && decide (1≤cost) && decide (cost≤1000)) then (w,1) else bif decide (0≤fo p 0 w.c.procs) then (w,11) else bif decide (w.c.procs.length=8) then (w,4) else
 (⟨{ w.c with procs:=nY { Gd with proc:=p,cost:=cost } w.c.procs },w.ev⟩,0)
def df (p:Pr) (prio:Int):List Tm→Wk→Wk
 | [],w=>w
 | a :: l,w=>df p prio l (w.take (bQ w.c.queues p a prio).1 (bQ w.c.queues p a prio).2.1)
def cL (w:Wk) (i:Nat) (r:Rq):Wk×Int :=
 bif (w.pc i).waiting then (w,14) else bif !qL r then (w,1) else bif !decide (iy w.c.queues r.expr=0) then (w,iy w.c.queues r.expr) else
 (bX (df (w.pc i).proc r.prio (cP r.expr) (be (w.setP i { w.pc i with waiting:=true,req:=r,since:=w.c.now }) i)),0)
def dZ (w:Wk) (i:Nat) (n:ByteArray):Wk×Int :=
 bif (w.pc i).waiting then (w,14) else bif decide (aw (w.pc i).led.entries n=⟨0,0⟩) then (w,10) else
 let w1:=eX w (w.pc i).proc ⟨n,⟨0,0⟩⟩
 (bX (be (w1.setP i { w1.pc i with led:=(kv (w1.pc i).led n).1 }) i),0)
def cj (p:Pr):List Tm→Wk→Wk
 | [],w=>w
 | a :: l,w=>cj p l (cI w p a.name a.am)
def cZ (w:Wk) (i:Nat) (n:Int):Wk×Int :=
 bif !decide ((b9 (w.pc i).led n).2.2=0) then (w,(b9 (w.pc i).led n).2.2) else
 let w1:=bif (w.pc i).waiting then ay w i else w
 let w2:=w1.setP i { w1.pc i with led:=(b9 (w.pc i).led n).1 }
 (bX (be (cj (w.pc i).proc (b9 (w.pc i).led n).2.1 w2) i),0)
def iF:Nat→Wk→Wk
 | 0,w=>w
 | n+1,w=>bif decide (eY w<0) then w else
  iF n (bX (be (ay (w.note 4 (w.pc (eY w).toNat).proc) (eY w).toNat) (eY w).toNat))
def jQ (w:Wk) (n:Int):Wk×Int :=
 bif !(decide (0≤n) && decide (n≤1000)) then (w,1) else bif decide (1073741824-n<w.c.now) then (w,16) else (iF w.c.procs.length ⟨{ w.c with now:=w.c.now+n },w.ev⟩,0)
def DY (w:Wk) (k:Cm):Wk×Int :=
 bif !(decide (1≤k.kind) && decide (k.kind≤9)) then (w,1) else bif decide (k.kind=1) then mu w k.proc k.n else bif decide (k.kind=9) then jQ w k.n else
 bif decide (fo k.proc 0 w.c.procs<0) then (w,10) else
 let i:=(fo k.proc 0 w.c.procs).toNat
 bif decide (k.kind=2) then cL w i k.req else
 bif decide (k.kind=3) then (bif !(w.pc i).waiting then (w,14) else (bX (be (ay w i) i),0)) else
 bif decide (k.kind=4) then dZ w i k.name else
 bif decide (k.kind=5) then (bif (w.pc i).waiting then (w,14) else bif !decide ((iD (w.pc i).led k.n).2=0) then (w,(iD (w.pc i).led k.n).2) else (be (w.setP i { w.pc i with led:=(iD (w.pc i).led k.n).1 }) i,0)) else
 bif decide (k.kind=6) then cZ w i k.n else
 bif decide (k.kind=8) && (w.pc i).waiting then (w,14) else (iE w i,0)
def Ch (c:Cs) (k:Cm):Cs×List Ev×Int :=
 bif !fB c then (LF,[],2) else bif !decide ((DY ⟨c,[]⟩ k).2=0) then (LF,[],(DY ⟨c,[]⟩ k).2) else ((DY ⟨c,[]⟩ k).1.c,(DY ⟨c,[]⟩ k).1.ev,0)
section
variable {w:World} {g:Nat} {t:TypeId}
theorem Blk.c1 {a0:Value} (h:Blk w g t #[a0]):w.cell? ⟨g,0,none⟩=some a0∧g<w.heap.size:=⟨h.cellx 0 rfl,h.lt⟩
theorem Blk.c2 {a0 a1:Value} (h:Blk w g t #[a0,a1]):w.cell? ⟨g,0,none⟩=some a0∧w.cell? ⟨g,1,none⟩=some a1∧g<w.heap.size:=⟨h.cellx 0 rfl,h.cellx 1 rfl,h.lt⟩
theorem Blk.c3 {a0 a1 a2:Value} (h:Blk w g t #[a0,a1,a2]):w.cell? ⟨g,0,none⟩=some a0∧w.cell? ⟨g,1,none⟩=some a1∧w.cell? ⟨g,2,none⟩=some a2∧g<w.heap.size:=⟨h.cellx 0 rfl,h.cellx 1 rfl,h.cellx 2 rfl,h.lt⟩
theorem Blk.c4 {a0 a1 a2 a3:Value} (h:Blk w g t #[a0,a1,a2,a3]):w.cell? ⟨g,0,none⟩=some a0∧w.cell? ⟨g,1,none⟩=some a1∧w.cell? ⟨g,2,none⟩=some a2∧w.cell? ⟨g,3,none⟩=some a3∧g<w.heap.size:=⟨h.cellx 0 rfl,h.cellx 1 rfl,h.cellx 2 rfl,h.cellx 3 rfl,h.lt⟩
theorem Blk.c5 {a0 a1 a2 a3 a4:Value} (h:Blk w g t #[a0,a1,a2,a3,a4]):w.cell? ⟨g,0,none⟩=some a0∧w.cell? ⟨g,1,none⟩=some a1∧w.cell? ⟨g,2,none⟩=some a2∧w.cell? ⟨g,3,none⟩=some a3∧w.cell? ⟨g,4,none⟩=some a4∧g<w.heap.size:=⟨h.cellx 0 rfl,h.cellx 1 rfl,h.cellx 2 rfl,h.cellx 3 rfl,h.cellx 4 rfl,h.lt⟩
theorem Blk.c7 {a0 a1 a2 a3 a4 a5 a6:Value} (h:Blk w g t #[a0,a1,a2,a3,a4,a5,a6]):w.cell? ⟨g,0,none⟩=some a0∧w.cell? ⟨g,1,none⟩=some a1∧w.cell? ⟨g,2,none⟩=some a2∧w.cell? ⟨g,3,none⟩=some a3∧w.cell? ⟨g,4,none⟩=some a4∧w.cell? ⟨g,5,none⟩=some a5∧w.cell? ⟨g,6,none⟩=some a6∧g<w.heap.size:=⟨h.cellx 0 rfl,h.cellx 1 rfl,h.cellx 2 rfl,h.cellx 3 rfl,h.cellx 4 rfl,h.cellx 5 rfl,h.cellx 6 rfl,h.lt⟩
theorem Blk.c8 {a0 a1 a2 a3 a4 a5 a6 a7:Value} (h:Blk w g t #[a0,a1,a2,a3,a4,a5,a6,a7]):w.cell? ⟨g,0,none⟩=some a0∧w.cell? ⟨g,1,none⟩=some a1∧w.cell? ⟨g,2,none⟩=some a2∧w.cell? ⟨g,3,none⟩=some a3∧w.cell? ⟨g,4,none⟩=some a4∧w.cell? ⟨g,5,none⟩=some a5∧w.cell? ⟨g,6,none⟩=some a6∧w.cell? ⟨g,7,none⟩=some a7∧g<w.heap.size:=⟨h.cellx 0 rfl,h.cellx 1 rfl,h.cellx 2 rfl,h.cellx 3 rfl,h.cellx 4 rfl,h.cellx 5 rfl,h.cellx 6 rfl,h.cellx 7 rfl,h.lt⟩
theorem Blk.c9 {a0 a1 a2 a3 a4 a5 a6 a7 a8:Value} (h:Blk w g t #[a0,a1,a2,a3,a4,a5,a6,a7,a8]):w.cell? ⟨g,0,none⟩=some a0∧w.cell? ⟨g,1,none⟩=some a1∧w.cell? ⟨g,2,none⟩=some a2∧w.cell? ⟨g,3,none⟩=some a3∧w.cell? ⟨g,4,none⟩=some a4∧w.cell? ⟨g,5,none⟩=some a5∧w.cell? ⟨g,6,none⟩=some a6∧w.cell? ⟨g,7,none⟩=some a7∧w.cell? ⟨g,8,none⟩=some a8∧g<w.heap.size:=⟨h.cellx 0 rfl,h.cellx 1 rfl,h.cellx 2 rfl,h.cellx 3 rfl,h.cellx 4 rfl,h.cellx 5 rfl,h.cellx 6 rfl,h.cellx 7 rfl,h.cellx 8 rfl,h.lt⟩
end
theorem results_cell_tmp2 {fn:Func} {p u u':Tmp} {ty:TypeId} (h:fn.results = #[.cell p ty,.tmp u,.tmp u']) (tmps:Array Value) (P:Program) (w:World) :
  (results fn tmps).run P w=((asAddr (tmps.getD p undef)).run P w).andThen fun a w₁=>((loadVar ty a).run P w₁).andThen fun v w₂=>.ok (.tuple #[v,tmps.getD u undef,tmps.getD u' undef]) w₂:=by
 simp only [results,h]
 simp [Sem.run_bind,Result.andThen]
section
variable {P:Program} {fn:Func} {p u u':Tmp} {ty:TypeId} {R:Ending→World→Prop} {a:Act} {w:World} {v v':Value}
end
def En.cells (x:En):List Value:=[.string x.name,.int .i64 x.before.mode,.int .i64 x.before.units,.int .i64 x.after.mode,.int .i64 x.after.units]
def En.val (x:En):Value:=.agg #[.string x.name,.int .i64 x.before.mode,.int .i64 x.before.units,.int .i64 x.after.mode,.int .i64 x.after.units]
def Sv.cells (x:Sv):List Value:=[.int .i64 x.label,.int .i64 x.at_]
def Sv.val (x:Sv):Value:=.agg #[.int .i64 x.label,.int .i64 x.at_]
def Ev.cells (x:Ev):List Value:=[.int .i64 x.kind,.int .i64 x.proc.site,.int .i64 x.proc.inc,.int .i64 x.proc.num,.string x.name,.int .i64 x.am.mode,.int .i64 x.am.units]
def Ev.val (x:Ev):Value:=.agg #[.int .i64 x.kind,.int .i64 x.proc.site,.int .i64 x.proc.inc,.int .i64 x.proc.num,.string x.name,.int .i64 x.am.mode,.int .i64 x.am.units]
def iR:El En:=El.plain 5 (by decide) En.cells (fun _=>rfl) (by intro x u hu;simp [En.cells] at hu;rcases hu with rfl|rfl|rfl|rfl|rfl <;> rfl)
def iN:El Sv:=El.plain 2 (by decide) Sv.cells (fun _=>rfl) (by intro x u hu;simp [Sv.cells] at hu;rcases hu with rfl|rfl <;> rfl)
def ql:El Ev:=El.plain 7 (by decide) Ev.cells (fun _=>rfl) (by intro x u hu;simp [Ev.cells] at hu;rcases hu with rfl|rfl|rfl|rfl|rfl|rfl|rfl <;> rfl)
theorem LS:ElTB prog iR 24 112 48:=ElTB.mk' underlying24 (.agg #[.string { data:=#[] },.int .i64 0,.int .i64 0,.int .i64 0,.int .i64 0]) 5 48 (by kernel_rfl) rfl rfl
theorem LT:ElTB prog iN 25 80 16:=ElTB.mk' underlying25 (.agg #[.int .i64 0,.int .i64 0]) 2 16 (by kernel_rfl) rfl rfl
theorem LU:ElTB prog ql 123 296 64:=ElTB.mk' underlying123 (.agg #[.int .i64 0,.int .i64 0,.int .i64 0,.int .i64 0,.string { data:=#[] },.int .i64 0,.int .i64 0]) 7 64 (by kernel_rfl) rfl rfl
section
variable {w:World} {S:Nat→Prop} {A:Option Addr} {i:Nat}
end
structure QS (w:World) (S:Nat→Prop) (A1 A2 A3:Option Addr) (q:Qu):Prop where
 r1:RowsAt oS w S A1 q.holds
 r2:RowsAt oV w S A2 q.convs
 r3:RowsAt oV w S A3 q.waits
 m1:q.holds.length≤maxLen
 m2:q.convs.length≤maxLen
 m3:q.waits.length≤maxLen
section
variable {w w':World} {S S':Nat→Prop} {A1 A2 A3:Option Addr} {q:Qu}
theorem QS.qf (h:QS w S A1 A2 A3 q) (hS:In w S):QF w w.heap.size A1 A2 A3 q:=⟨h.r1.lo hS,h.r2.lo hS,h.r3.lo hS,h.m1,h.m2,h.m3,Nat.le_refl _⟩
theorem QS.grow (h:QS w S A1 A2 A3 q) (hS:In w S) (hb:Below w.heap.size w w'):QS w' S A1 A2 A3 q:=⟨h.r1.grow hS hb,h.r2.grow hS hb,h.r3.grow hS hb,h.m1,h.m2,h.m3⟩
theorem QS.mono (h:QS w S A1 A2 A3 q) (hS:∀b,S b→S' b):QS w S' A1 A2 A3 q:=⟨h.r1.mono hS,h.r2.mono hS,h.r3.mono hS,h.m1,h.m2,h.m3⟩
theorem QS.of {cs:List Value} (h:LM.rep w S q cs):∃A1 A2 A3 c1 c2 c3,.agg cs.toArray=q.val A1 A2 A3 c1 c2 c3∧QS w S A1 A2 A3 q:=by
 obtain ⟨A1,A2,A3,c1,c2,c3,rfl,m1,m2,m3,r1,r2,r3⟩:=h
 exact ⟨A1,A2,A3,c1,c2,c3,rfl,r1,r2,r3,m1,m2,m3⟩
theorem QS.rep (h:QS w S A1 A2 A3 q) (c1 c2 c3:Nat):LM.rep w S q [.string q.res.name,.int .i64 q.res.kind,.int .i64 q.res.units,.int .i64 q.res.home,.slice A1 q.holds.length c1,.slice A2 q.convs.length c2,.slice A3 q.waits.length c3,.int .i64 q.gen] :=
 ⟨A1,A2,A3,c1,c2,c3,rfl,h.m1,h.m2,h.m3,h.r1,h.r2,h.r3⟩
end
def tF (d:Nat):El Pc where
 n:=16
 pos:=by decide
 rep:=fun w S x cs=>∃A1 c1 A2 c2 A3 c3,cs=[.int .i64 x.proc.site,.int .i64 x.proc.inc,.int .i64 x.proc.num,.int .i64 x.cost,.slice A1 x.led.entries.length c1,.slice A2 x.led.saves.length c2,.bool x.waiting,.int .i64 x.req.expr.k,.string x.req.expr.atom.name,.int .i64 x.req.expr.atom.am.mode,.int .i64 x.req.expr.atom.am.units,.slice A3 x.req.expr.kids.length c3,.int .i64 x.req.prio,.int .i64 x.req.limit,.int .i64 x.since,.int .i64 x.gen]∧
  RowsAt iR w S A1 x.led.entries∧(x.led.entries.length≤c1∧c1≤maxLen)∧RowsAt iN w S A2 x.led.saves∧(x.led.saves.length≤c2∧c2≤maxLen)∧RowsAt (qP d) w S A3 x.req.expr.kids∧(x.req.expr.kids.length≤c3∧c3≤maxLen)
 len:=fun h=>by obtain ⟨A1,c1,A2,c2,A3,c3,rfl,_⟩:=h;rfl
 one:=fun h=>by obtain ⟨A1,c1,A2,c2,A3,c3,rfl,_⟩:=h;intro u hu;simp at hu;rcases hu with rfl|rfl|rfl|rfl|rfl|rfl|rfl|rfl|rfl|rfl|rfl|rfl|rfl|rfl|rfl|rfl <;> rfl
 same:=fun h hk hS=>by
  obtain ⟨A1,c1,A2,c2,A3,c3,e,h1,h2,h3,h4,h5,h6⟩:=h
  exact ⟨A1,c1,A2,c2,A3,c3,e,h1.same hk hS,h2,h3.same hk hS,h4,h5.same hk hS,h6⟩
theorem Je (l:List Value) (k:Nat):(l.map D.sc).any (D.has k)=false:=by
 induction l with
 | nil=>rfl
 | cons x l ih=>simp only [List.map_cons,List.any_cons,ih,D.has,Bool.or_self]
theorem DZ {w:World} {F:Nat→Prop} {ρ:Nat→Value}:∀{l vs:List Value},All2 (D.rep w F ρ) (l.map .sc) vs→vs=l
 | [],[],_=>rfl
 | _ :: _,_ :: _,h=>by rw [show _=_ from h.1,DZ h.2]
 | [],_ :: _,h=>h.elim
 | _ :: _,[],h=>h.elim
@[reducible] def ed {α:Type} (n:Nat) (pos:0<n) (f:α→List Value) (len:∀x,(f x).length=n) (one:∀x,∀u∈f x,u.oneCell'=true):Dp (El.plain n pos f len one) where
 deep:=fun x=>(f x).map .sc
 get:=fun h=>by rw [show _=_ from h];exact All2.scs _
 put:=fun h=>DZ h
 nok:=fun x k=>Je (f x) k
instance:Dp iz:=ed _ _ _ _ _
instance:Dp Ge:=ed _ _ _ _ _
instance:Dp cr:=ed _ _ _ _ _
instance:Dp oS:=ed _ _ _ _ _
instance:Dp oV:=ed _ _ _ _ _
instance:Dp iR:=ed _ _ _ _ _
instance:Dp iN:=ed _ _ _ _ _
instance:Dp ql:=ed _ _ _ _ _
instance:ST prog oS 162 287 40:=⟨LJ⟩
instance:ST prog oV 163 284 56:=⟨LK⟩
instance:ST prog iR 24 112 48:=⟨LS⟩
instance:ST prog iN 25 80 16:=⟨LT⟩
instance:ST prog ql 123 296 64:=⟨LU⟩
instance:ST prog cr 39 31 32:=⟨LI⟩
def Pc.d (d:Nat) (x:Pc):List D:=[.sc (.int .i64 x.proc.site),.sc (.int .i64 x.proc.inc),.sc (.int .i64 x.proc.num),.sc (.int .i64 x.cost),.sl iR x.led.entries,.sl iN x.led.saves,.sc (.bool x.waiting),.sc (.int .i64 x.req.expr.k),.sc (.string x.req.expr.atom.name),.sc (.int .i64 x.req.expr.atom.am.mode),.sc (.int .i64 x.req.expr.atom.am.units),.sl (qP d) x.req.expr.kids,.sc (.int .i64 x.req.prio),.sc (.int .i64 x.req.limit),.sc (.int .i64 x.since),.sc (.int .i64 x.gen)]
instance (d:Nat):Dp (tF d) where
 deep:=Pc.d d
 get:=by
  rintro w F ρ x cs ⟨A1,c1,A2,c2,A3,c3,rfl,h1,h2,h3,h4,h5,h6⟩
  exact ⟨rfl,rfl,rfl,rfl,⟨A1,c1,rfl,h2,h1⟩,⟨A2,c2,rfl,h4,h3⟩,rfl,rfl,rfl,rfl,rfl,⟨A3,c3,rfl,h6,h5⟩,rfl,rfl,rfl,rfl,trivial⟩
 put:=by
  intro w F ρ x cs h
  match cs,h with
  | [_,_,_,_,_,_,_,_,_,_,_,_,_,_,_,_],⟨rfl,rfl,rfl,rfl,⟨A1,c1,rfl,h2,h1⟩,⟨A2,c2,rfl,h4,h3⟩,rfl,rfl,rfl,rfl,rfl,⟨A3,c3,rfl,h6,h5⟩,rfl,rfl,rfl,rfl,_⟩=>exact ⟨A1,c1,A2,c2,A3,c3,rfl,h1,h2,h3,h4,h5,h6⟩
 nok:=fun _ _=>rfl
section
variable {α:Type} {E:El α} {e:TypeId} {S:Nat→Prop}
section
variable {n:Nat} {pos:0<n} {f:α→List Value} {len:∀x,(f x).length=n} {one:∀x,∀u∈f x,u.oneCell'=true}
theorem OwnRows.nw {w:World} {base:Nat} {v:Value} {l:List α} (h:OwnRows (El.plain n pos f len one) e w base v l):∃A cap,v = .slice A l.length cap∧RowsAt (El.plain n pos f len one) w (New base w) A l∧l.length≤cap∧cap≤maxLen:=by
 obtain ⟨A,cap,rfl,h1,h2⟩:=h.newP
 obtain ⟨_,_,e,_,_,h3⟩:=h.form
 injection e with _ _ e
 subst e
 exact ⟨A,cap,rfl,h1,h2,h3⟩
end
end
end Go.Proofs.YtdaajdflefnjfaaGreat
