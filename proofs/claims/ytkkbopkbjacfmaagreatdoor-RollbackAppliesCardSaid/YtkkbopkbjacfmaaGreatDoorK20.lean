/- Part K20 of a proof of statements of chapter 15 (no condition). -/
import Derived.Test.YtkkbopkbjacfmaaGreatDoorK17
import Derived.Test.YtkkbopkbjacfmaaGreatDoorK19
import Derived.RangeFuncBound
import Derived.RangeFuncCalls
import Derived.Shelf.Abstract
import Derived.Shelf.RegionOpen
import Derived.OwnWalkIn
import Derived.TacticsInMore
import Derived.LoopNIn
import Derived.LoopIn
set_option linter.unusedVariables false
set_option linter.unusedSimpArgs false
set_option maxRecDepth 100000
set_option maxHeartbeats 64000000
namespace Go.Proofs.YtkkbopkbjacfmaaGreatDoor
open Go.RowKit Go.Proofs.Tryz
theorem Ef:∀{l:List Ex},Hd l=true->∀x∈l,zW x=true
 | [],_,_,hx=>absurd hx (by simp)
 | y :: l,h,x,hx=>by
  rw [oU,qBa] at h;rcases List.mem_cons.1 hx with rfl|hx
  ·exact h.1
  ·exact Ef h.2 x hx
theorem y4 (d:Nat) (x:Ex) (L:List Tm) (set:List Bool) (hx2:zW x=true) (hL:L.length<=1000) (hs:set.length<=1000):FSpec prog 215 [x.a d,.one (.sl da L),.one (.sl eI set)] [] [] (.b (Cu (fN L set) x)) []:=by
 revert d x;refine fun d x=>Ex.ind (P:=fun x=>∀d,zW x=true->FSpec prog 215 [x.a d,.one (.sl da L),.one (.sl eI set)] [] [] (.b (Cu (fN L set) x)) []) (fun k a l ih=>?_) x d;intro d hx2;rw [yx,qBa] at hx2;obtain ⟨hh,hx2⟩:=hx2;unfold zV at hh;obtain ⟨v,hv⟩:=qGe (Cu (fN L set) (.mk k a l));rw [hv];rw [M3] at hv;show FSpec prog 215 [.ag (CR d k a l),.one (.sl da L),.one (.sl eI set)] [] [] (.b v) [];refine aS func215 ?_;cases hE:l.isEmpty with
 | true =>
  obtain rfl:=List.isEmpty_iff.1 hE;rw [hE,qCt] at hh hv;simp only [qBa,decide_eq_true_eq] at hh;obtain ⟨rfl,_⟩:=hh;refine ao ?_;refine ab (fun i=>i<=L.length/\fN (L.drop i) (set.drop i) a=v) (fun i=>bC [3] [(1,.c (.sl da L)),(2,.c (.sl eI set)),(3,.c (.ptr 3 0)),(7,.i i)] [(3,.box 66 (CR d 0 a []))]) (fun i=>L.length-i) 0 ⟨Nat.zero_le _,hv⟩ aL ?_;rintro i ⟨hi,hs⟩;by_cases hlt:i<L.length
  ·rw [qDc hlt,uw,List.tail_drop] at hs;by_cases hsi:i<set.length
   ·rw [show set.drop i=_ from qDc hsi] at hs;repeat' (first|refine az ?_ ?_|refine ay ?_|exact aA|refine ax fun hb=>?_)
    ·exact Rx
    ·refine ⟨i+1,⟨by omega,?_⟩,by omega,?_⟩
     ·rw [<-hs];simp [*]
     ·exact aL
   ·rw [show set.drop i=[] from qDn (by omega)] at hs;repeat' (first|refine az ?_ ?_|refine ay ?_|exact aA|refine ax fun hb=>?_)
    ·exact Rx
    ·refine ⟨i+1,⟨by omega,?_⟩,by omega,?_⟩
     ·rw [<-hs];simp [*]
     ·exact aL
  ·exact Ra
 | false =>
  have hl0:0<l.length:=List.length_pos_iff.2 fun e=>by rw [e] at hE;cases hE
  refine aP (fun c ρ a w hr=>ky (t:=0) (i:=4) hr rfl rfl) (fun hx=>?_);obtain ⟨hlen,hne⟩:=hx;obtain ⟨e,rfl⟩:=hne hl0;rw [hE,qCf] at hh hv;simp only [qBa,decide_eq_true_eq] at hh;have hk:1<=k:=hh.1.1;clear hh hne;obtain ⟨N,hN⟩:=qGe (M2 (fN L set) l);rw [hN] at hv;refine ao ?_;refine ab (fun x:Nat×Nat=>x.1<=l.length/\x.2<=x.1/\x.2+M2 (fN L set) (l.drop x.1)=N) (fun x=>bC [3] [(1,.c (.sl da L)),(2,.c (.sl eI set)),(3,.c (.ptr 3 0)),(8,.i x.2),(9,.i x.1)] [(3,.box 66 (CR (e+1) k a l))]) (fun x=>l.length-x.1) (0,0) ⟨Nat.zero_le _,Nat.le_refl _,by simpa using hN⟩ aL ?_;rintro ⟨i,n⟩ ⟨hi,hn,hs⟩;dsimp only at *
  by_cases hlt:i<l.length
  ·rw [qDc hlt,Hi] at hs;have kS:=ih l[i] (List.getElem_mem hlt) e (Ef hx2 _ (List.getElem_mem hlt));obtain ⟨b,hb1⟩:=qGe (Cu (fN L set) l[i]);rw [hb1] at kS hs;clear ih hb1;repeat' (first|refine az ?_ ?_|refine fV ?_|refine ay ?_|exact aA|refine ax fun hb=>?_)
   ·refine ⟨(i+1,n+1),⟨by dsimp only;omega,by dsimp only;omega,by rw [hb] at hs;simp at hs;dsimp only;omega⟩,by dsimp only;omega,?_⟩;exact aL
   ·refine ⟨(i+1,n),⟨by dsimp only;omega,by dsimp only;omega,by rw [hb] at hs;simpa using hs⟩,by dsimp only;omega,?_⟩;exact aL
  ·rw [qDn (by omega)] at hs;obtain rfl:n=N:=hs;refine ao ?_;refine eR ?_;rw [<-hv]
theorem vn (d:Nat) (x:Ex) (set:List Bool) (hs:set.length<=1000):FSpec prog 126 [x.a d,.one (.sl eI set)] [] [] (.b (fu x set)) []:=by
 unfold fu;refine aS func126 ?_;cases hv:nZ x with
 | false =>
  have:=pw d x;exact QY
 | true =>
  obtain ⟨hsh,_,h8,_,_⟩:=ux hv;have:=pw d x;have:=y4 d x (cR x) set hsh (by omega) hs;exact QY
instance:ST prog ic 25 78 120:=⟨ElTB.mk' underlying25 (.agg #[.string { data:=#[] },.int .i64 0,.int .i64 0,.int .i64 0,.slice none 0 0,.slice none 0 0,.slice none 0 0,.int .i64 0]) 8 120 (by kernel_rfl) rfl rfl⟩
theorem Iw {t:List Qu} (h:cM t=true):t.length<=8/\∀q∈t,ai q=true:=by
 unfold cM at h;rw [qBa,decide_eq_true_eq] at h;exact ⟨h.1,uY h.2⟩
theorem ou {q:Qu} (h:ai q=true):fq q:=by
 have hs:=aG h;exact ⟨hs.hv.len,hs.clen,by have:=hs.wlen;omega⟩
theorem dD (t:List Qu):FSpec prog 148 [.one (.sl ic t)] [] [] (.b (eV t)) []:=by
 refine aS func148 ?_;cases hP:cM t with
 | false =>
  have:=vj t;refine ao ?_;refine eR ?_;simp [eV,hP]
 | true =>
  obtain ⟨hm,h8⟩:=Iw hP;have:=vj t;have:=pu t (by omega) (fun q hq=>ou (h8 q hq));refine ao ?_;refine eR ?_;simp [eV,hP];try omega
theorem mX (n:ByteArray) (l:List Ho) (hl:l.length<=100000):FSpec prog 326 [.one (.sc (.string n)),.one (.sl g8 l)] [] [] (.c (.sl sR (bo n l))) []:=by
 refine aS func326 ?_;refine ao ?_;refine bK 5 1000 355 sR rfl rfl rfl ?_;refine ab (fun i=>i<=l.length) (fun i=>bC [1000] [(0,.c (.sc (.string n))),(1,.c (.sl g8 l)),(5,.c (.own 1000)),(6,.i i)] [(1000,.arr 355 sR (bo n (l.take i)))]) (fun i=>l.length-i) 0 (Nat.zero_le _) aL ?_;intro i hi;have hlen:(bo n (l.take i)).length=i:=by simp [bo,Nat.min_eq_left hi]
 repeat' (first|refine az ?_ ?_|(refine aa 8 rfl ?_;refine aK (ae rfl rfl (av rfl rfl) (aB [⟨1,(l[i]'(by omega)).proc,n,(l[i]'(by omega)).am⟩] rfl rfl rfl rfl) rfl aE aE) rfl rfl rfl ?_)|refine ay ?_|exact aA|refine ax fun hb=>?_)
 ·refine ⟨i+1,by omega,by omega,?_⟩;have e:bo n (l.take (i+1))=bo n (l.take i)++[⟨1,(l[i]'(by omega)).proc,n,(l[i]'(by omega)).am⟩]:=by
   unfold bo;rw [List.take_succ_eq_append_getElem (by omega),List.map_append];rfl
  rw [e];exact a8 (qf [(1000,27)])
 ·have e:bo n (l.take i)=bo n l:=by rw [List.take_of_length_le (by omega)]
  rw [<-e];exact Rd
theorem px (t:List Qu) (i:Nat) (q:Qu) (hi:i<t.length) (hl:t.length<=100000):FSpec prog 325 [.one (.sl ic t),.one (.sc (.int .i64 i)),q.a] [] [] (.c (.sl ic (t.set i q))) []:=by
 refine aS func325 ?_;repeat' (first|refine az ?_ ?_|refine ay ?_|(refine aa 4 rfl ?_;refine bW (aM (z:=q) rfl rfl rfl rfl (by first|assumption|exact qGg (by omega)) rfl rfl rfl rfl (qNl rfl) rfl rfl) rfl rfl rfl ?_)|exact aA|refine ax fun hb=>?_|exact aT|fail)
theorem mo (n:ByteArray):∀{t t':List Qu} (k:Nat),eZ t=eZ t'->bV n k t=bV n k t'
 | [],[],_,_=>rfl
 | [],_ :: _,_,h=>by simp [eZ] at h
 | _ :: _,[],_,h=>by simp [eZ] at h
 | q :: t,q' :: t',k,h=>by
  have h':q.res.name :: eZ t=q'.res.name :: eZ t':=h;injection h' with h1 h2;rw [fI,fI,h1,mo n (k+1) h2]
theorem jN {t t':List Qu} (h:eZ t=eZ t') (n:ByteArray):bh t n=bh t' n/\jo t n=jo t' n:=by
 unfold bh jo;rw [mo n 0 h];exact ⟨rfl,rfl⟩
theorem qY {t:List Qu} {n:ByteArray} (h:bh t n=true):∃i,∃hi:i<t.length,jo t n=i/\t[i].res.name=n/\bG t n=t[i]:=by
 unfold bh at h;obtain ⟨i,hi,e1,e2⟩:=oa (of_decide_eq_true h);have e3:jo t n=i:=by unfold jo;rw [e1];omega
 refine ⟨i,hi,e3,e2,?_⟩;unfold bG;rw [e3];simp [hi]
theorem ec {t:List Qu} {n:ByteArray} (h:bh t n=true):bG t n∈t/\(bG t n).res.name=n:=by
 obtain ⟨i,hi,_,e2,e3⟩:=qY h;rw [e3];exact ⟨List.getElem_mem hi,e2⟩
theorem gI {t:List Qu} (hv:eV t=true) {q:Qu} (hq:q∈t):bh t q.res.name=true/\bG t q.res.name=q:=by
 obtain ⟨i,hi,rfl⟩:=List.mem_iff_getElem.1 hq;have h:=Au (k:=0) hi (At hv);unfold bh bG jo;rw [h];refine ⟨qDt (by omega),?_⟩;have:((0+i:Nat):Int).toNat=i:=by omega
 rw [this];simp [hi]
structure TStep (t t':List Qu) (p:Pr) (n:ByteArray):Prop where
 v:eV t'=true
 nm:eZ t'=eZ t
 has:bh t n=true
 oth:∀m,m≠n->bh t m=true->bG t' m=bG t m
 out:Out (bG t n) (bG t' n) p
 sub:∀r∈aD t',r=p\/r∈aD t
theorem TOut.step {t t':List Qu} {i:Nat} {p:Pr} {n:ByteArray} (h:TOut t t' i p) (hv:eV t=true) (hn:(t[i]'h.lt).res.name=n) (hp:(aD t).length<=7\/p∈aD t\/p ∉ aD t'):TStep t t' p n:=by
 have hm:=h.names;have hmem:=gI hv (List.getElem_mem h.lt);rw [hn] at hmem;have hix:jo t n=i:=by
  obtain ⟨j,hj,e1,e2,e3⟩:=qY hmem.1;rw [e1];have hnd:=At hv;unfold eZ at hnd;rcases Nat.lt_trichotomy j i with hlt|he|hgt
  ·have:=List.pairwise_iff_getElem.1 hnd j i (by simpa using hj) (by simpa using h.lt) hlt;simp only [List.getElem_map] at this;exact absurd (e2.trans hn.symm) this
  ·exact he
  ·have:=List.pairwise_iff_getElem.1 hnd i j (by simpa using h.lt) (by simpa using hj) hgt;simp only [List.getElem_map] at this;exact absurd (hn.trans e2.symm) this
 refine ⟨h.valid hv hp,hm,hmem.1,fun m hne hh=>?_,?_,xE hv h⟩
 ·unfold bG;rw [(jN hm m).2];obtain ⟨j,hj,e1,e2,_⟩:=qY hh;rw [e1];have hji:j≠i:=fun e=>by subst e;exact hne (e2.symm.trans hn)
  have:=h.other hji;simp only [List.getD_eq_getElem?_getD,this]
 ·obtain ⟨q,e,ho⟩:=h.at;have e2:bG t' n=q:=by
   unfold bG;rw [(jN hm n).2,hix];simp only [List.getD_eq_getElem?_getD,e];rfl
  rw [e2,hmem.2];exact ho
structure TP (t t':List Qu) (p:Pr):Prop where
 v:eV t'=true
 nm:eZ t'=eZ t
 out:∀n,bh t n=true->Out (bG t n) (bG t' n) p
 sub:∀r∈aD t',r=p\/r∈aD t
theorem TStep.tp {t t':List Qu} {p:Pr} {n:ByteArray} (hv:eV t=true) (h:TStep t t' p n):TP t t' p:=by
 refine ⟨h.v,h.nm,fun m hm=>?_,h.sub⟩;by_cases e:m=n
 ·subst e;exact h.out
 ·rw [h.oth m e hm];exact Out.same p (dc hv (ec hm).1)
theorem TP.hasE {t t':List Qu} {p:Pr} (h:TP t t' p) (m:ByteArray):bh t' m=bh t m:=(jN h.nm m).1
abbrev g6 (x:Pc) (n:ByteArray):Am:=aw x.led.entries n
structure FitR (t:List Qu) (n:ByteArray) (x:Pc):Prop where
 h:af (bG t n).holds x.proc=g6 x n
 w:ah (bG t n) x.proc=none
abbrev jn (t:List Qu) (n:ByteArray) (x:Pc) (a:Am):Am:=cl (bG t n).res (g6 x n) a
def FitA (t:List Qu) (n:ByteArray) (x:Pc) (a:Am):Prop :=
  (bc (bG t n).res (g6 x n) a=true/\FitR t n x)\/(bc (bG t n).res (g6 x n) a=false/\
    ((af (bG t n).holds x.proc=jn t n x a/\ah (bG t n) x.proc=none)\/
     (af (bG t n).holds x.proc=g6 x n/\ah (bG t n) x.proc=some (jn t n x a)/\∀y∈(bG t n).waits,y.proc=x.proc->y.prio=x.req.prio)))
def dT (l:List Tm) (n:ByteArray):Option Tm:=l.find? fun a=>aV a.name n
def FitW (t:List Qu) (n:ByteArray) (x:Pc) (l:List Tm):Prop:=match dT l n with
 | none=>FitR t n x
 | some a=>FitA t n x a.am
theorem FitR.tp {t t':List Qu} {p:Pr} {m:ByteArray} {x:Pc} (hs:TP t t' p) (hp:x.proc≠p) (hm:bh t m=true) (h:FitR t m x):FitR t' m x:=by
 rcases (hs.out m hm).eff x.proc hp with ⟨h1,h2⟩|⟨a,h1,_⟩
 ·exact ⟨h1.trans h.h,h2.trans h.w⟩
 ·rw [h.w] at h1;cases h1
theorem FitA.tp {t t':List Qu} {p:Pr} {m:ByteArray} {x:Pc} {a:Am} (hs:TP t t' p) (hp:x.proc≠p) (hm:bh t m=true) (h:FitA t m x a):FitA t' m x a:=by
 have hr:=(hs.out m hm).res;unfold FitA jn at *
 rw [hr];rcases h with ⟨h1,h2⟩|⟨h1,h2⟩
 ·exact .inl ⟨h1,h2.tp hs hp hm⟩
 ·refine .inr ⟨h1,?_⟩;rcases h2 with ⟨h3,h4⟩|⟨h3,h4,h5⟩
  ·rcases (hs.out m hm).eff x.proc hp with ⟨k1,k2⟩|⟨b,k1,_⟩
   ·exact .inl ⟨k1.trans h3,k2.trans h4⟩
   ·rw [h4] at k1;cases k1
  ·rcases (hs.out m hm).eff x.proc hp with ⟨k1,k2⟩|⟨b,k1,k2,k3⟩
   ·refine .inr ⟨k1.trans h3,k2.trans h4,fun y hy hyp=>?_⟩;obtain ⟨z,hz,e1,e2⟩:=(hs.out m hm).prio y hy (by rw [hyp];exact hp);rw [<-e2];exact h5 z hz (e1.trans hyp)
   ·rw [h4] at k1;injection k1 with k1;exact .inl ⟨k2.trans k1.symm,k3⟩
theorem FitW.tp {t t':List Qu} {p:Pr} {m:ByteArray} {x:Pc} {l:List Tm} (hs:TP t t' p) (hp:x.proc≠p) (hm:bh t m=true) (h:FitW t m x l):FitW t' m x l:=by
 unfold FitW at *
 cases hf:dT l m with
 | none=>rw [hf] at h;exact h.tp hs hp hm
 | some a=>rw [hf] at h;exact h.tp hs hp hm
structure PStat (t:List Qu) (x:Pc):Prop where
 vp:gm x.proc=true
 cost:1<=x.cost/\x.cost<=1000
 led:Ld x.led
 gen:0<=x.gen/\x.gen<=1073741824
 hf:∀n,g6 x n≠⟨0,0⟩->bh t n=true/\aH (bG t n).res (g6 x n)=true
theorem AN {t t':List Qu} {p:Pr} (hs:TP t t' p):∀l:List Tm,gQ t' l=gQ t l
 | []=>rfl
 | a :: l=>by
  unfold gQ;rw [hs.hasE,AN hs l];cases hh:bh t a.name with
  | false=>rfl
  | true=>rw [(hs.out _ hh).res]
theorem Eh {t t':List Qu} {p:Pr} (hs:TP t t' p) (x:Ex):iK t' x=iK t x:=by
 unfold iK;rw [AN hs]
structure PWait (t:List Qu) (now:Int) (x:Pc):Prop where
 rq:qW x.req=true
 rs:iK t x.req.expr=0
 sn:0<=x.since/\x.since<=now
structure PInv (t:List Qu) (now:Int) (x:Pc):Prop where
 stat:PStat t x
 run:x.waiting=false->x.req=Rq.zero/\x.since=0/\∀n,bh t n=true->FitR t n x
 wat:x.waiting=true->PWait t now x/\∀n,bh t n=true->FitW t n x (cR x.req.expr)
theorem PStat.tp {t t':List Qu} {p:Pr} {x:Pc} (hs:TP t t' p) (h:PStat t x):PStat t' x :=
 ⟨h.vp,h.cost,h.led,h.gen,fun m hm=>by
  obtain ⟨h1,h2⟩:=h.hf m hm;exact ⟨by rw [hs.hasE];exact h1,by rw [(hs.out m h1).res];exact h2⟩⟩
theorem PWait.tp {t t':List Qu} {p:Pr} {now:Int} {x:Pc} (hs:TP t t' p) (h:PWait t now x):PWait t' now x:=⟨h.rq,by rw [Eh hs];exact h.rs,h.sn⟩
theorem PInv.tp {t t':List Qu} {p:Pr} {now:Int} {x:Pc} (hs:TP t t' p) (hp:x.proc≠p) (h:PInv t now x):PInv t' now x:=by
 refine ⟨h.stat.tp hs,fun hw=>?_,fun hw=>?_⟩
 ·obtain ⟨h1,h2,h3⟩:=h.run hw;exact ⟨h1,h2,fun m hm=>by rw [hs.hasE] at hm;exact (h3 m hm).tp hs hp hm⟩
 ·obtain ⟨h1,h2⟩:=h.wat hw;exact ⟨h1.tp hs,fun m hm=>by rw [hs.hasE] at hm;exact (h2 m hm).tp hs hp hm⟩
theorem y7 {t:List Qu} {n:ByteArray} {p:Pr} {q':Qu} (h:bh t n=true) (ho:Out (bG t n) q' p):∃i,∃hi:i<t.length,jo t n=i/\t[i].res.name=n/\TOut t (t.set (jo t n) q') i p:=by
 obtain ⟨i,hi,e1,e2,e3⟩:=qY h;refine ⟨i,hi,e1,e2,hi,q',by rw [e1],?_⟩;rw [e3] at ho;exact ho
theorem y8 {t:List Qu} {n:ByteArray} {q':Qu} (h:bh t n=true) (hn:eZ (t.set (jo t n) q')=eZ t):bG (t.set (jo t n) q') n=q':=by
 obtain ⟨i,hi,e1,e2,e3⟩:=qY h;unfold bG;rw [(jN hn n).2,e1];simp [hi]
theorem vD {t:List Qu} {p:Pr} {n:ByteArray} (hv:eV t=true) (h:bh t n=true) (hw:(ah (bG t n) p).isSome=true) :
  dq t p n=(t.set (jo t n) (bd (bG t n) p).1,bo n (bd (bG t n) p).2.1,0)/\TStep t (dq t p n).1 p n/\af (bG (dq t p n).1 n).holds p=af (bG t n).holds p/\ah (bG (dq t p n).1 n) p=none:=by
 have hq:=ec h;have hs:=km (dc hv hq.1) hw;obtain ⟨ho,h1,h2⟩:=sL hs;have e:dq t p n=(t.set (jo t n) (bd (bG t n) p).1,bo n (bd (bG t n) p).2.1,0):=by
  unfold bh at h;have hf:=of_decide_eq_true h;unfold dq;rw [hv,qDf (show ¬bV n 0 t<0 by omega)];simp only [Bool.not_true,qCf];rw [show t.getD (jo t n) yS=bG t n from rfl,qDt hs];rfl
 obtain ⟨i,hi,e1,e2,hto⟩:=y7 h ho;have hp:p∈aD t:=by
  unfold aD;rw [bf,et];exact ⟨_,hq.1,(dH (aG (dc hv hq.1)) p).2 (by unfold dY;rw [hw];rfl)⟩
 have hst:TStep t (dq t p n).1 p n:=by rw [e];exact hto.step hv e2 (.inr (.inl hp))
 have hq2:bG (dq t p n).1 n=(bd (bG t n) p).1:=by
  have:=hst.nm;rw [e] at this ⊢;exact y8 h this
 exact ⟨e,hst,by rw [hq2];exact h1,by rw [hq2];exact h2⟩
theorem qZ {t:List Qu} {p:Pr} {a:Tm} (hv:eV t=true) (h:bh t a.name=true) (h0:af (bG t a.name).holds p≠⟨0,0⟩) (hw:ah (bG t a.name) p=none) (hc:bc (bG t a.name).res (af (bG t a.name).holds p) a.am=true) :
  cO t p a=(t.set (jo t a.name) (aY (bG t a.name) p a.am).1,(bif decide (af (bG t a.name).holds p=a.am) then [] else [⟨3,p,a.name,a.am⟩])++bo a.name (aY (bG t a.name) p a.am).2.1,0)/\TStep t (cO t p a).1 p a.name/\af (bG (cO t p a).1 a.name).holds p=a.am/\ah (bG (cO t p a).1 a.name) p=none:=by
 have hq:=ec h;have hs:=sM (dc hv hq.1) h0 hw hc;obtain ⟨ho,h1,h2⟩:=kq hs;have e:cO t p a=(t.set (jo t a.name) (aY (bG t a.name) p a.am).1,(bif decide (af (bG t a.name).holds p=a.am) then [] else [⟨3,p,a.name,a.am⟩])++bo a.name (aY (bG t a.name) p a.am).2.1,0):=by
  unfold bh at h;have hf:=of_decide_eq_true h;unfold cO;rw [hv,qDf (show ¬bV a.name 0 t<0 by omega)];simp only [Bool.not_true,qCf];rw [show t.getD (jo t a.name) yS=bG t a.name from rfl,qDt hs];rfl
 obtain ⟨i,hi,e1,e2,hto⟩:=y7 h ho;have hp:p∈aD t:=by
  unfold aD;rw [bf,et];exact ⟨_,hq.1,(dH (aG (dc hv hq.1)) p).2 (by unfold dY;rw [bg.2 h0];simp)⟩
 have hst:TStep t (cO t p a).1 p a.name:=by rw [e];exact hto.step hv e2 (.inr (.inl hp))
 have hq2:bG (cO t p a).1 a.name=(aY (bG t a.name) p a.am).1:=by
  have:=hst.nm;rw [e] at this ⊢;exact y8 h this
 exact ⟨e,hst,by rw [hq2];exact h1,by rw [hq2];exact h2⟩
theorem FY {t:List Qu} {p:Pr} {a:Tm} {prio:Int} (hv:eV t=true) (h:bh t a.name=true) (hvp:gm p=true) (hr:0<=prio/\prio<=7) (hf:aH (bG t a.name).res a.am=true) (hw:ah (bG t a.name) p=none)
  (hl:af (bG t a.name).holds p≠⟨0,0⟩\/(bG t a.name).holds.length+(bG t a.name).waits.length<8) (hp:(aD t).length<=7\/p∈aD t) :
  b9 t p a prio=(t.set (jo t a.name) (bO (bG t a.name) p a.am prio).1,bo a.name (bO (bG t a.name) p a.am prio).2.1,0)/\TStep t (b9 t p a prio).1 p a.name/\ClOut (bG t a.name) (bG (b9 t p a prio).1 a.name) p a.am prio:=by
 have hq:=ec h;have hs:=Av (dc hv hq.1) hvp hr hf hw hl;have ho:=CM hs;have e:b9 t p a prio=(t.set (jo t a.name) (bO (bG t a.name) p a.am prio).1,bo a.name (bO (bG t a.name) p a.am prio).2.1,0):=by
  unfold bh at h;have hf:=of_decide_eq_true h;have hc:(decide ((aD t).length=8) && !decide (p∈aD t))=false:=by
   rcases hp with hp|hp
   ·rw [qDf (by omega)];rfl
   ·rw [qDt hp];simp
  unfold b9;rw [hv,qDf (show ¬bV a.name 0 t<0 by omega),hc];simp only [Bool.not_true,qCf];rw [show t.getD (jo t a.name) yS=bG t a.name from rfl,qDt hs];rfl
 obtain ⟨i,hi,e1,e2,hto⟩:=y7 h ho.out;have hst:TStep t (b9 t p a prio).1 p a.name:=by
  rw [e];refine hto.step hv e2 ?_;rcases hp with hp|hp
  ·exact .inl hp
  ·exact .inr (.inl hp)
 have hq2:bG (b9 t p a prio).1 a.name=(bO (bG t a.name) p a.am prio).1:=by
  have:=hst.nm;rw [e] at this ⊢;exact y8 h this
 exact ⟨e,hst,by rw [hq2];exact ho⟩
theorem Eff.trans {a b c:Qu} {p:Pr} (h:Eff a b p) (k:Eff b c p):Eff a c p:=by
 rcases h with ⟨h1,h2⟩|⟨x,h1,h2,h3⟩
 ·rcases k with ⟨k1,k2⟩|⟨x,k1,k2,k3⟩
  ·exact .inl ⟨k1.trans h1,k2.trans h2⟩
  ·exact .inr ⟨x,h2.symm.trans k1,k2,k3⟩
 ·rcases k with ⟨k1,k2⟩|⟨y,k1,_⟩
  ·exact .inr ⟨x,h1,k1.trans h2,k2.trans h3⟩
  ·rw [h3] at k1;cases k1
theorem Out.trans {a b c:Qu} {p:Pr} (h:Out a b p) (k:Out b c p):Out a c p :=
 ⟨k.ok,k.res.trans h.res,fun r hr=>(h.eff r hr).trans (k.eff r hr),fun x hx hp=>by
  obtain ⟨y,hy,e1,e2⟩:=k.prio x hx hp;obtain ⟨z,hz,e3,e4⟩:=h.prio y hy (by rw [e1];exact hp);exact ⟨z,hz,e3.trans e1,e4.trans e2⟩⟩
theorem TP.refl {t:List Qu} (hv:eV t=true) (p:Pr):TP t t p:=⟨hv,rfl,fun _ hn=>Out.same p (dc hv (ec hn).1),fun _ hr=>.inr hr⟩
theorem TP.trans {a b c:List Qu} {p:Pr} (h:TP a b p) (k:TP b c p):TP a c p :=
 ⟨k.v,k.nm.trans h.nm,fun n hn=>(h.out n hn).trans (k.out n (by rw [h.hasE];exact hn)),fun r hr=>by
  rcases k.sub r hr with e|e
  ·exact .inl e
  ·exact h.sub r e⟩
structure WS (w w':Wk) (p:Pr) (N:ByteArray->Prop):Prop where
 tp:TP w.c.queues w'.c.queues p
 oth:∀m,¬N m->bh w.c.queues m=true->bG w'.c.queues m=bG w.c.queues m
 procs:w'.c.procs=w.c.procs
 now:w'.c.now=w.c.now
theorem WS.refl {w:Wk} (hv:eV w.c.queues=true) (p:Pr) (N:ByteArray->Prop):WS w w p N:=⟨TP.refl hv p,fun _ _ _=>rfl,rfl,rfl⟩
theorem WS.trans {a b c:Wk} {p:Pr} {N:ByteArray->Prop} (h:WS a b p N) (k:WS b c p N):WS a c p N :=
 ⟨h.tp.trans k.tp,fun m hm hh=>(k.oth m hm (by rw [h.tp.hasE];exact hh)).trans (h.oth m hm hh),k.procs.trans h.procs,k.now.trans h.now⟩
theorem WS.mono {a b:Wk} {p:Pr} {N M:ByteArray->Prop} (h:WS a b p N) (hm:∀m,N m->M m):WS a b p M:=⟨h.tp,fun m hM hh=>h.oth m (fun e=>hM (hm m e)) hh,h.procs,h.now⟩
theorem WS.take {w:Wk} {t:List Qu} {ev:List Ev} {p:Pr} {n:ByteArray} (hv:eV w.c.queues=true) (h:TStep w.c.queues t p n):WS w (w.take t ev) p (· = n):=⟨h.tp hv,fun m hm hh=>h.oth m hm hh,rfl,rfl⟩
theorem Mu {r:Rs} {l a:Am} (hs:aW r=true) (ha:aH r a=true) (hc:bc r l a=false) (hl:l=⟨0,0⟩\/aH r l=true) :
  aH r (cl r l a)=true/\bc r (cl r l a) l=true/\bc r (cl r l a) a=true/\cl r l a≠l:=by
 rcases hl with rfl|hl
 ·rw [ob ha];have p0:bI r ⟨0,0⟩=true:=by unfold bI aJ;rw [hs];rfl
  refine ⟨ha,?_,me ha,?_⟩
  ·unfold bc;rw [df ha,p0];rfl
  ·exact bg.1 (eF ha)
 ·exact yR hl ha hc
theorem vH {t:List Qu} {x:Pc} (h:PStat t x) (n:ByteArray):g6 x n=⟨0,0⟩\/aH (bG t n).res (g6 x n)=true:=by
 by_cases e:g6 x n=⟨0,0⟩
 ·exact .inl e
 ·exact .inr (h.hf n e).2
theorem q7 {t:List Qu} (hv:eV t=true) {n:ByteArray} (h:bh t n=true):aW (bG t n).res=true:=(aG (dc hv (ec h).1)).hv.shp
theorem AQ {w:Wk} {x:Pc} {n:ByteArray} {a:Am} (hv:eV w.c.queues=true) (hn:bh w.c.queues n=true) (hs:PStat w.c.queues x) (ha:aH (bG w.c.queues n).res a=true) (hf:FitA w.c.queues n x a) :
  WS w (cg w x n) x.proc (· = n)/\FitR (cg w x n).c.queues n x:=by
 have same:FitR w.c.queues n x->WS w (cg w x n) x.proc (· = n)/\FitR (cg w x n).c.queues n x:=by
  intro h;have e1:iL w x.proc n=w:=by unfold iL;rw [h.w];rfl
  have e2:cg w x n=w:=by
   unfold cg di;rw [e1,qDt h.h];rfl
  rw [e2];exact ⟨WS.refl hv _ _,h⟩
 rcases hf with ⟨_,h⟩|⟨hc,⟨h1,h2⟩|⟨h1,h2,_⟩⟩
 ·exact same h
 ·obtain ⟨j1,j2,_,j4⟩:=Mu (q7 hv hn) ha hc (vH hs n);have e1:iL w x.proc n=w:=by unfold iL;rw [h2];rfl
  have hne:af (bG w.c.queues n).holds x.proc≠aw x.led.entries n:=by rw [h1];exact j4
  have h0:af (bG w.c.queues n).holds x.proc≠⟨0,0⟩:=by rw [h1];exact bg.1 (eF j1)
  obtain ⟨e,hst,k1,k2⟩:=qZ (a:=⟨n,aw x.led.entries n⟩) hv hn h0 h2 (by rw [h1];exact j2);have e2:cg w x n=fK w x.proc ⟨n,aw x.led.entries n⟩:=by
   unfold cg di;rw [e1,qDf hne];rfl
  rw [e2];exact ⟨WS.take hv hst,⟨k1,k2⟩⟩
 ·obtain ⟨e,hst,k1,k2⟩:=vD (p:=x.proc) hv hn (by rw [h2];rfl);have e1:iL w x.proc n=mP w x.proc n:=by unfold iL;rw [h2];rfl
  have hq:af (bG (mP w x.proc n).c.queues n).holds x.proc=aw x.led.entries n:=k1.trans h1;have e2:cg w x n=mP w x.proc n:=by
   unfold cg di;rw [e1,qDt hq];rfl
  rw [e2];exact ⟨WS.take hv hst,⟨hq,k2⟩⟩
theorem CX {l:List Tm} {n:ByteArray} {a:Tm} (h:dT l n=some a):a∈l/\a.name=n:=by
 unfold dT at h;exact ⟨List.mem_of_find?_eq_some h,aZ.1 (by have:=List.find?_some h;simpa using this)⟩
theorem iQ {l:List Tm} {n:ByteArray}:dT l n=none↔∀a∈l,a.name≠n:=by
 unfold dT;rw [List.find?_eq_none];constructor
 ·intro h a ha e;exact h a ha (aZ.2 e)
 ·intro h a ha e;exact h a ha (aZ.1 e)
theorem ef (a:Tm) (l:List Tm) (n:ByteArray):dT (a :: l) n=bif aV a.name n then some a else dT l n:=by
 unfold dT;rw [List.find?_cons];cases aV a.name n <;> rfl
def K9 (l:List Tm):Prop:=l.Pairwise fun a b=>a.name≠b.name
def Rsl (t:List Qu) (l:List Tm):Prop:=∀a∈l,bh t a.name=true/\aH (bG t a.name).res a.am=true
theorem q9 {t:List Qu}:∀{l:List Tm},gQ t l=0↔Rsl t l
 | []=>by simp [gQ,Rsl]
 | a :: l=>by
  unfold gQ;cases h1:bh t a.name with
  | false =>
   simp only [Bool.not_false,qCt];constructor
   ·intro h;cases h
   ·intro h;have:=(h a (by simp)).1;rw [h1] at this;cases this
  | true =>
   simp only [Bool.not_true,qCf];cases h2:aH (bG t a.name).res a.am with
   | false =>
    simp only [Bool.not_false,qCt];constructor
    ·intro h;cases h
    ·intro h;have:=(h a (by simp)).2;rw [h2] at this;cases this
   | true =>
    simp only [Bool.not_true,qCf];rw [q9];constructor
    ·intro h b hb;rcases List.mem_cons.1 hb with rfl|hb
     ·exact ⟨h1,h2⟩
     ·exact h b hb
    ·intro h b hb;exact h b (by simp [hb])
theorem Rsl.tp {t t':List Qu} {p:Pr} {l:List Tm} (hs:TP t t' p) (h:Rsl t l):Rsl t' l:=fun a ha=>by
 obtain ⟨h1,h2⟩:=h a ha;exact ⟨by rw [hs.hasE];exact h1,by rw [(hs.out _ h1).res];exact h2⟩
theorem FitR.eq {t t':List Qu} {n:ByteArray} {x:Pc} (h:FitR t n x) (e:bG t' n=bG t n):FitR t' n x:=⟨by rw [e];exact h.h,by rw [e];exact h.w⟩
theorem FitA.eq {t t':List Qu} {n:ByteArray} {x:Pc} {a:Am} (h:FitA t n x a) (e:bG t' n=bG t n):FitA t' n x a:=by
 unfold FitA jn at *
 rw [e];rcases h with ⟨h1,h2⟩|h
 ·exact .inl ⟨h1,h2.eq e⟩
 ·exact .inr h
theorem FitW.eq {t t':List Qu} {n:ByteArray} {x:Pc} {l:List Tm} (h:FitW t n x l) (e:bG t' n=bG t n):FitW t' n x l:=by
 unfold FitW at *
 cases hf:dT l n with
 | none=>rw [hf] at h;exact h.eq e
 | some a=>rw [hf] at h;exact h.eq e
def DrT (x:Pc):List Tm->Wk->Prop
 | [],_=>True
 | a :: l,w=>eV w.c.queues=true/\bh w.c.queues a.name=true/\DrT x l (cg w x a.name)
theorem vI:∀(l:List Tm) (w:Wk) (x:Pc),eV w.c.queues=true->PStat w.c.queues x->K9 l->Rsl w.c.queues l->(∀n,bh w.c.queues n=true->FitW w.c.queues n x l)->
  WS w (fv x l w) x.proc (fun _=>True)/\(∀n,bh w.c.queues n=true->FitR (fv x l w).c.queues n x)/\DrT x l w
 | [],w,x,hv,_,_,_,hf=>⟨WS.refl hv _ _,fun n hn=>hf n hn,trivial⟩
 | a :: l,w,x,hv,hs,hnd,hr,hf=>by
  obtain ⟨h1,h2⟩:=List.pairwise_cons.1 hnd;obtain ⟨ha1,ha2⟩:=hr a (by simp);have hfa:FitA w.c.queues a.name x a.am:=by
   have:=hf a.name ha1;unfold FitW at this;rw [ef,aZ.2 rfl] at this;exact this
  obtain ⟨k1,k2⟩:=AQ hv ha1 hs ha2 hfa;have ih:=vI l (cg w x a.name) x k1.tp.v (hs.tp k1.tp) h2 ((show Rsl w.c.queues l from fun b hb=>hr b (by simp [hb])).tp k1.tp) (fun n hn=>by
   rw [k1.tp.hasE] at hn;by_cases e:n=a.name
   ·subst e;unfold FitW;rw [iQ.2 (fun b hb e=>h1 b hb e.symm)];exact k2
   ·have e1:=k1.oth n e hn;have h3:=hf n hn;unfold FitW at h3;rw [ef,cb.2 (fun h=>e h.symm)] at h3;exact FitW.eq (l:=l) h3 e1)
  exact ⟨(k1.mono fun _ _=>trivial).trans ih.1,fun n hn=>ih.2.1 n (by rw [k1.tp.hasE];exact hn),hv,ha1,ih.2.2⟩
theorem Iz {t:List Qu} {L:List Pr} (hc:∀r∈aD t,r∈L) (hl:L.length<=8) {p:Pr} (hp:p∈L):(aD t).length<=7\/p∈aD t:=by
 by_cases h:p∈aD t
 ·exact .inr h
 ·left
  have:=el (l:=p :: aD t) (m:=L) (List.nodup_cons.2 ⟨h,fa t⟩) fun r hr=>by
   rcases List.mem_cons.1 hr with rfl|hr
   ·exact hp
   ·exact hc r hr
  rw [List.length_cons] at this;omega
theorem IA {t:List Qu} {L:List Pr} (hv:eV t=true) (hc:∀r∈aD t,r∈L) (hl:L.length<=8) {p:Pr} (hp:p∈L) {n:ByteArray} (hn:bh t n=true) (hw:ah (bG t n) p=none) :
  af (bG t n).holds p≠⟨0,0⟩\/(bG t n).holds.length+(bG t n).waits.length<8:=by
 by_cases h0:af (bG t n).holds p=⟨0,0⟩
 ·right
  have hq:=ec hn;have hd:=aG (dc hv hq.1);have hno:=ez.1 hw;have hnd:(cL (bG t n).holds++bR (bG t n).waits).Nodup:=by
   rw [List.nodup_append];refine ⟨hd.hv.asc.imp fun {a b} (hab:fS a b) (e:a=b)=>by rw [e] at hab;exact bz b hab,hd.wnd,?_⟩;intro u hu v hv2 e;obtain ⟨x,hx,rfl⟩:=List.mem_map.1 hu;obtain ⟨y,hy,rfl⟩:=List.mem_map.1 hv2;have h1:=mh hd.hv.asc hx;rw [e,(hd.wok y hy).2.2] at h1;exact bg.1 (eF (hd.hv.fit x hx).2) h1.symm
  have hpn:p ∉ cL (bG t n).holds++bR (bG t n).waits:=by
   intro hm;rcases List.mem_append.1 hm with hm|hm
   ·obtain ⟨x,hx,rfl⟩:=List.mem_map.1 hm;have h1:=mh hd.hv.asc hx;rw [h0] at h1;exact bg.1 (eF (hd.hv.fit x hx).2) h1.symm
   ·obtain ⟨y,hy,e⟩:=List.mem_map.1 hm;exact hno y (by simp [hy]) e
  have hsub:∀r∈p :: (cL (bG t n).holds++bR (bG t n).waits),r∈L:=by
   intro r hr;rcases List.mem_cons.1 hr with rfl|hr
   ·exact hp
   ·refine hc r ?_;unfold aD;rw [bf,et];refine ⟨_,hq.1,?_⟩;unfold dW;rw [bf];rcases List.mem_append.1 hr with hr|hr
    ·exact List.mem_append.2 (.inl hr)
    ·refine List.mem_append.2 (.inr ?_);show r∈bR ((bG t n).convs++(bG t n).waits);unfold bR at hr ⊢;rw [List.map_append];exact List.mem_append.2 (.inr hr)
  have:=el (List.nodup_cons.2 ⟨hpn,hnd⟩) hsub;rw [List.length_cons,List.length_append] at this;unfold cL bR at this;rw [List.length_map,List.length_map] at this;omega
 ·exact .inl h0
theorem xN (L:List Pr) (hl:L.length<=8):∀(l pre:List Tm) (w:Wk) (x:Pc),eV w.c.queues=true->PStat w.c.queues x->x.proc∈L->(∀r∈aD w.c.queues,r∈L)->(0<=x.req.prio/\x.req.prio<=7)->K9 (pre++l)->Rsl w.c.queues l->
  (∀n,bh w.c.queues n=true->(dT l n=none->FitW w.c.queues n x (pre++l))/\(∀a,dT l n=some a->FitR w.c.queues n x))->
  WS w (dC x.proc x.req.prio l w) x.proc (fun _=>True)/\(∀n,bh w.c.queues n=true->FitW (dC x.proc x.req.prio l w).c.queues n x (pre++l))/\∀r∈aD (dC x.proc x.req.prio l w).c.queues,r∈L
 | [],pre,w,x,hv,_,_,hc,_,_,_,hf=>⟨WS.refl hv _ _,fun n hn=>(hf n hn).1 rfl,hc⟩
 | a :: l,pre,w,x,hv,hs,hpL,hc,hpr,hnd,hr,hf=>by
  have hnd2:K9 (a :: l):=(List.pairwise_append.1 hnd).2.1;obtain ⟨h1,h2⟩:=List.pairwise_cons.1 hnd2;obtain ⟨ha1,ha2⟩:=hr a (by simp);have hfr:FitR w.c.queues a.name x:=(hf a.name ha1).2 a (by rw [ef,aZ.2 rfl];rfl);obtain ⟨e,hst,ho⟩:=FY (a:=a) (prio:=x.req.prio) hv ha1 hs.vp hpr ha2 hfr.w (IA hv hc hl hpL ha1 hfr.w) (Iz hc hl hpL);have hws:=WS.take (ev:=(b9 w.c.queues x.proc a x.req.prio).2.1) hv hst;have hc2:∀r∈aD (b9 w.c.queues x.proc a x.req.prio).1,r∈L:=fun r hr2=>by
   rcases hst.sub r hr2 with e|e
   ·rw [e];exact hpL
   ·exact hc r e
  have hres:=hst.out.res;have hfa:FitA (b9 w.c.queues x.proc a x.req.prio).1 a.name x a.am:=by
   unfold FitA jn;rw [hres];have hh:=hfr.h;rcases ho.own with ⟨k1,k2⟩|⟨k1,k2⟩
   ·rw [hh] at k1;exact .inl ⟨k1,hfr.eq k2⟩
   ·rw [hh] at k1 k2;rcases k2 with ⟨k3,k4⟩|⟨k3,k4⟩
    ·exact .inr ⟨k1,.inr ⟨k3,k4,fun y hy hyp=>ho.pr y hy hyp⟩⟩
    ·exact .inr ⟨k1,.inl ⟨k3,k4⟩⟩
  have happ:pre++a :: l=(pre++[a])++l:=by simp
  have hat:∀n,dT (pre++a :: l) n=some a\/n≠a.name:=by
   intro n;by_cases e:n=a.name
   ·left
    subst e;unfold dT;rw [List.find?_append];have hpre:List.find? (fun b:Tm=>aV b.name a.name) pre=none:=by
     rw [List.find?_eq_none];intro b hb e2;exact (List.pairwise_append.1 hnd).2.2 b hb a (by simp) (aZ.1 e2)
    rw [hpre,List.find?_cons,aZ.2 rfl];rfl
   ·exact .inr e
  have ih:=xN L hl l (pre++[a]) (w.take (b9 w.c.queues x.proc a x.req.prio).1 (b9 w.c.queues x.proc a x.req.prio).2.1) x hws.tp.v (hs.tp hws.tp) hpL hc2 hpr (by rw [<-happ];exact hnd) ((show Rsl w.c.queues l from fun b hb=>hr b (by simp [hb])).tp hws.tp) (fun n hn=>by
   rw [hws.tp.hasE] at hn;rw [<-happ];by_cases e:n=a.name
   ·subst e;refine ⟨fun _=>?_,fun b hb=>?_⟩
    ·unfold FitW;rcases hat a.name with h3|h3
     ·rw [h3];exact hfa
     ·exact absurd rfl h3
    ·have:=CX hb;exact absurd this.2.symm (h1 b this.1)
   ·have e1:=hws.oth n e hn;have h3:=hf n hn;rw [ef,cb.2 (fun h=>e h.symm),qCf] at h3;exact ⟨fun h4=>FitW.eq (h3.1 h4) e1,fun b hb=>(h3.2 b hb).eq e1⟩)
  rw [<-happ] at ih;exact ⟨(hws.mono fun _ _=>trivial).trans ih.1,fun n hn=>ih.2.1 n (by rw [hws.tp.hasE];exact hn),ih.2.2⟩
theorem IB {r:Rs} {l j:Am} (hj:aH r j=true) (hc:bc r j l=true) (hne:j≠l) (hl:l=⟨0,0⟩\/aH r l=true):dx l j=true:=by
 unfold dx;rw [mg hj,qDf (fun e=>hne e.symm)];rcases hl with rfl|hl
 ·rfl
 ·rw [mg hl];have z:=eF hl;have zj:=eF hj;have hs:aW r=true:=by unfold aH at hj;rw [qBa] at hj;exact hj.1
  unfold bc at hc;rw [df hj,df hl,z,zj] at hc;unfold aH at hl hj;simp only [Bool.true_and,Bool.false_or,Bool.not_false] at hc ⊢;rw [z,Bool.false_or];rcases cj hs with ⟨hk,_⟩|⟨hk,_⟩
  ·rw [if_pos hk] at hc hl;simp only [qBa,fP] at hl;rw [qDf (show ¬l.mode=0 by omega)];exact hc
  ·rw [if_neg (by omega)] at hc hl hj;simp only [qBa,decide_eq_true_eq] at hl hj hc;rw [qDt hl.2.1.1];simp only [Bool.not_true,qCf,decide_eq_true_eq];rcases Int.lt_or_eq_of_le hc with h|h
   ·exact h
   ·exfalso;apply hne
    obtain ⟨lm,lu⟩:=l;obtain ⟨jm,ju⟩:=j;dsimp only at *
    rw [hl.2.1.1,hj.2.1.1,h]
theorem Ei {l:List En} (h:Ents l):∀e∈l,aw l e.name≠⟨0,0⟩:=by
 refine pj (P:=fun l=>∀e∈l,aw l e.name≠⟨0,0⟩) (fun e he=>absurd he (by simp)) ?_ l h;intro l e _ he ih f hf;have hu:∀a:Am,bj a=true->a≠⟨0,0⟩:=fun a ha e=>by rw [e] at ha;exact absurd ha (by decide)
 rw [kt];rcases List.mem_append.1 hf with hf|hf
 ·cases aV e.name f.name with
  | true=>exact hu _ (pm he.gr).1
  | false=>exact ih f hf
 ·rw [List.mem_singleton] at hf;subst hf;rw [aZ.2 rfl];exact hu _ (pm he.gr).1
theorem FZ {t:List Qu} {x:Pc} (hs:PStat t x):∀e∈x.led.entries,e.name∈eZ t:=fun e he=>by
 obtain ⟨h1,_⟩:=hs.hf e.name (Ei hs.led.ents e he);obtain ⟨h2,h3⟩:=ec h1;exact List.mem_map.2 ⟨_,h2,h3⟩
theorem La {t:List Qu} (hv:eV t=true) {n:ByteArray} (hn:bh t n=true):bU n.toList=true:=by
 obtain ⟨h2,h3⟩:=ec hn;have h4:=(aG (dc hv h2)).res;unfold ly Rs.key at h4;rw [h3] at h4;simp only [qBa] at h4;exact h4.1.1.1
structure GrP (x y:Pc):Prop where
 proc:y.proc=x.proc
 ents:∃m,y.led.entries=x.led.entries++m
 svs:y.led.saves=x.led.saves
theorem GrP.refl (x:Pc):GrP x x:=⟨rfl,⟨[],by simp⟩,rfl⟩
theorem GrP.trans {x y z:Pc} (h:GrP x y) (k:GrP y z):GrP x z:=by
 obtain ⟨h1,⟨m,h2⟩,h3⟩:=h;obtain ⟨k1,⟨m',k2⟩,k3⟩:=k;exact ⟨k1.trans h1,⟨m++m',by rw [k2,h2,List.append_assoc]⟩,k3.trans h3⟩
structure LedOf (t:List Qu) (x y:Pc):Prop where
 eq:y = { x with led:=y.led }
 stat:PStat t y
 gr:GrP x y
theorem LedOf.proc {t:List Qu} {x y:Pc} (h:LedOf t x y):y.proc=x.proc:=by rw [h.eq]
theorem NH {w:Wk} {i:Nat} {x y:Pc} {n:ByteArray} {a:Am} (hv:eV w.c.queues=true) (hn:bh w.c.queues n=true) (hy:w.pc i=y) (hi:i<w.c.procs.length) (hl:LedOf w.c.queues x y) (hlh:g6 y n=g6 x n) (ha:aH (bG w.c.queues n).res a=true) (hf:FitA w.c.queues n x a)
  (hc:bc (bG w.c.queues n).res (af (bG w.c.queues n).holds x.proc) a=true) :
  ∃y',jh w i x.proc n=w.setP i y'/\LedOf w.c.queues x y'/\FitR w.c.queues n y'/\∀m,m≠n->g6 y' m=g6 y m:=by
 have same:FitR w.c.queues n x->∃y',jh w i x.proc n=w.setP i y'/\LedOf w.c.queues x y'/\FitR w.c.queues n y'/\∀m,m≠n->g6 y' m=g6 y m:=by
  intro h;have h1:af (bG w.c.queues n).holds x.proc=aw (w.pc i).led.entries n:=by rw [hy];exact h.h.trans hlh.symm
  refine ⟨y,?_,hl,⟨?_,?_⟩,fun _ _=>rfl⟩
  ·unfold jh;rw [qDt h1,qCt];unfold Wk.setP;have:w.c.procs.set i y=w.c.procs:=by
    apply List.ext_getElem
    ·simp
    ·intro j h1 h2;rw [List.getElem_set];split
     ·next e =>
      subst e;unfold Wk.pc at hy;rw [<-hy];simp [hi]
     ·rfl
   rw [this]
  ·rw [hl.proc];exact h.h.trans hlh.symm
  ·rw [hl.proc];exact h.w
 rcases hf with ⟨_,h⟩|⟨hc2,⟨h1,h2⟩|⟨h1,h2,_⟩⟩
 ·exact same h
 ·obtain ⟨j1,j2,_,j4⟩:=Mu (q7 hv hn) ha hc2 (by rw [<-hlh];exact vH hl.stat n);have hne:af (bG w.c.queues n).holds x.proc≠aw (w.pc i).led.entries n:=by rw [hy,h1,show aw y.led.entries n=g6 x n from hlh];exact j4
  have hgr:dx (g6 x n) (jn w.c.queues n x a)=true:=IB j1 j2 j4 (by rw [<-hlh];exact vH hl.stat n);obtain ⟨e1,e2⟩:=FQ (g:=y.led) hl.stat.led (e:=⟨n,g6 x n,jn w.c.queues n x a⟩) (La hv hn) (by show g6 x n=aw y.led.entries n;exact hlh.symm) hgr (ns:=eZ w.c.queues) (by unfold eZ;rw [List.length_map];exact (cm hv).1) (FZ hl.stat) (by obtain ⟨h3,h4⟩:=ec hn;exact List.mem_map.2 ⟨_,h3,h4⟩);have hlhn:∀m,aw (y.led.entries++[(⟨n,g6 x n,jn w.c.queues n x a⟩:En)]) m=bif aV n m then jn w.c.queues n x a else g6 y m:=fun m=>kt _ _ _;refine ⟨{ y with led:=⟨y.led.entries++[⟨n,g6 x n,jn w.c.queues n x a⟩],y.led.saves⟩ },?_,⟨?_,?_,hl.gr.trans ⟨rfl,⟨_,rfl⟩,rfl⟩⟩,⟨?_,?_⟩,fun m hm=>?_⟩
  ·unfold jh;rw [qDf hne,qCf,hy,h1,show aw y.led.entries n=g6 x n from hlh,e1]
  ·have:=hl.eq;generalize y.led=g at *
   subst this;rfl
  ·have hst:=hl.stat;refine ⟨hst.vp,hst.cost,e2,hst.gen,fun m hm=>?_⟩;have h5:g6 { y with led:=⟨y.led.entries++[⟨n,g6 x n,jn w.c.queues n x a⟩],y.led.saves⟩ } m=bif aV n m then jn w.c.queues n x a else g6 y m:=hlhn m;rw [h5] at hm ⊢;cases he:aV n m with
   | true =>
    have:=aZ.1 he;subst this;exact ⟨hn,j1⟩
   | false =>
    rw [he] at hm;exact hst.hf m hm
  ·show af (bG w.c.queues n).holds y.proc=aw _ n;rw [hl.proc,h1,hlhn,aZ.2 rfl];rfl
  ·show ah (bG w.c.queues n) y.proc=none;rw [hl.proc];exact h2
  ·show aw _ m=_;rw [hlhn,cb.2 (fun e=>hm e.symm)];rfl
 ·rw [h1,hc2] at hc;cases hc
theorem pz {w:Wk} {i:Nat} (hi:i<w.c.procs.length) (x:Pc):(w.setP i x).pc i=x:=by
 unfold Wk.setP Wk.pc;simp [hi]
theorem rb (w:Wk) (i:Nat) (x y:Pc):(w.setP i x).setP i y=w.setP i y:=by
 unfold Wk.setP;simp
theorem LedOf.refl {t:List Qu} {x:Pc} (h:PStat t x):LedOf t x x:=⟨rfl,h,GrP.refl x⟩
theorem FitR.led {t:List Qu} {n:ByteArray} {x y:Pc} (h:FitR t n x) (hp:y.proc=x.proc) (hl:g6 y n=g6 x n):FitR t n y:=⟨by rw [hp,hl];exact h.h,by rw [hp];exact h.w⟩
def FinT (x:Pc) (i:Nat):List Tm->List Bool->Wk->Prop
 | a :: l,b :: bs,w=>eV w.c.queues=true/\bh w.c.queues a.name=true/\i<w.c.procs.length/\FinT x i l bs (bif b then jh w i x.proc a.name else cg w x a.name)
 | _,_,_=>True
theorem vJ:∀(l:List Tm) (bs:List Bool) (w:Wk) (i:Nat) (x y:Pc),l.length=bs.length->eV w.c.queues=true->w.pc i=y->i<w.c.procs.length->PStat w.c.queues x->LedOf w.c.queues x y->(∀a∈l,g6 y a.name=g6 x a.name)->K9 l->Rsl w.c.queues l->
  (∀n,bh w.c.queues n=true->(∀a,dT l n=some a->FitA w.c.queues n x a.am)/\(dT l n=none->FitR w.c.queues n y))->
  (∀k (h:k<l.length),bs.getD k false=true->bc (bG w.c.queues l[k].name).res (af (bG w.c.queues l[k].name).holds x.proc) l[k].am=true)->
  ∃y',TP w.c.queues (dB x i l bs w).c.queues x.proc/\(dB x i l bs w).c.procs=w.c.procs.set i y'/\(dB x i l bs w).c.now=w.c.now/\LedOf (dB x i l bs w).c.queues x y'/\(∀n,bh w.c.queues n=true->FitR (dB x i l bs w).c.queues n y')/\FinT x i l bs w
 | [],bs,w,i,x,y,_,hv,hy,hi,_,hl,_,_,_,hf,_=>by
  have e:dB x i [] bs w=w:=by cases bs <;> rfl
  rw [e];refine ⟨y,TP.refl hv _,?_,rfl,hl,fun n hn=>(hf n hn).2 rfl,by cases bs <;> trivial⟩;apply List.ext_getElem
  ·simp
  ·intro j h1 h2;rw [List.getElem_set];split
   ·next e =>
    subst e;unfold Wk.pc at hy;rw [<-hy];simp [hi]
   ·rfl
 | a :: l,[],w,i,x,y,hlen,_,_,_,_,_,_,_,_,_,_=>by simp at hlen
 | a :: l,b :: bs,w,i,x,y,hlen,hv,hy,hi,hsx,hl,hlh,hnd,hr,hf,hc=>by
  obtain ⟨h1,h2⟩:=List.pairwise_cons.1 hnd;obtain ⟨ha1,ha2⟩:=hr a (by simp);have hfa:FitA w.c.queues a.name x a.am:=(hf a.name ha1).1 a (by rw [ef,aZ.2 rfl];rfl);have hr2:Rsl w.c.queues l:=fun b hb=>hr b (by simp [hb]);have hat:∀n,n≠a.name->dT (a :: l) n=dT l n:=fun n hn=>by rw [ef,cb.2 (fun h=>hn h.symm)];rfl
  have hnone:dT l a.name=none:=iQ.2 fun b hb e=>h1 b hb e.symm;cases b with
  | true =>
   obtain ⟨y1,e1,k1,k2,k3⟩:=NH hv ha1 hy hi hl (hlh a (by simp)) ha2 hfa (by have:=hc 0 (by simp) (by simp);simpa using this);have e:dB x i (a :: l) (true :: bs) w=dB x i l bs (w.setP i y1):=by
    show dB x i l bs (bif true then jh w i x.proc a.name else cg w x a.name)=_;rw [qCt,e1]
   rw [e];have ih:=vJ l bs (w.setP i y1) i x y1 (by simpa using hlen) hv (pz hi y1) (by show i<(w.c.procs.set i y1).length;simpa using hi) hsx k1 (fun b hb=>by rw [k3 _ (fun e=>h1 b hb e.symm)];exact hlh b (by simp [hb])) h2 hr2
    (fun n hn=>by
     by_cases en:n=a.name
     ·subst en;exact ⟨fun b hb=>(by rw [hnone] at hb;cases hb),fun _=>k2⟩
     ·have h3:=hf n hn;rw [hat n en] at h3;exact ⟨h3.1,fun h4=>(h3.2 h4).led (by rw [k1.proc,hl.proc]) (k3 n en)⟩)
    (fun k hk hb=>by
     have h5:=hc (k+1) (by simpa using hk) (by simpa using hb);simp only [List.getElem_cons_succ] at h5;exact h5)
   obtain ⟨y',q1,q2,q3,q4,q5,q6⟩:=ih;refine ⟨y',q1,?_,q3,q4,q5,hv,ha1,hi,by rw [qCt,e1];exact q6⟩;rw [q2];show (w.c.procs.set i y1).set i y'=_;simp
  | false =>
   obtain ⟨k1,k2⟩:=AQ hv ha1 hsx ha2 hfa;have e:dB x i (a :: l) (false :: bs) w=dB x i l bs (cg w x a.name):=rfl;rw [e];have ih:=vJ l bs (cg w x a.name) i x y (by simpa using hlen) k1.tp.v (by unfold Wk.pc at hy ⊢;rw [k1.procs];exact hy) (by rw [k1.procs];exact hi) (hsx.tp k1.tp) ⟨hl.eq,hl.stat.tp k1.tp,hl.gr⟩ (fun b hb=>hlh b (by simp [hb])) h2 (hr2.tp k1.tp)
    (fun n hn=>by
     rw [k1.tp.hasE] at hn;by_cases en:n=a.name
     ·subst en;exact ⟨fun b hb=>(by rw [hnone] at hb;cases hb),fun _=>k2.led hl.proc (hlh a (by simp))⟩
     ·have h3:=hf n hn;rw [hat n en] at h3;have e1:=k1.oth n en hn;exact ⟨fun b hb=>(h3.1 b hb).eq e1,fun h4=>(h3.2 h4).eq e1⟩)
    (fun k hk hb=>by
     have h5:=hc (k+1) (by simpa using hk) (by simpa using hb);simp only [List.getElem_cons_succ] at h5;have hm:l[k]∈l:=List.getElem_mem hk;rw [k1.oth l[k].name (fun e=>h1 _ hm e.symm) (hr2 _ hm).1];exact h5)
   obtain ⟨y',q1,q2,q3,q4,q5,q6⟩:=ih;exact ⟨y',k1.tp.trans q1,by rw [q2,k1.procs],q3.trans k1.now,q4,fun n hn=>q5 n (by rw [k1.tp.hasE];exact hn),hv,ha1,hi,q6⟩
theorem vK (x:Ex) (L:List Tm):∀(n:Nat) (out:List Bool) (k:Nat),(iM x L n out).getD k false=true->out.getD k false=true
 | 0,_,_,h=>h
 | n+1,out,k,h=>by
  have h1:=vK x L n _ k h;cases hb:out.getD n false with
  | false=>rw [hb] at h1;exact h1
  | true =>
   rw [hb,qCt] at h1;by_cases hk:k=n
   ·subst hk;exact hb
   ·rw [List.getD_eq_getElem?_getD,List.getElem?_set_ne (fun e=>hk e.symm),<-List.getD_eq_getElem?_getD] at h1;exact h1
theorem vL (x:Ex) (L:List Tm):∀(n:Nat) (out:List Bool),(iM x L n out).length=out.length
 | 0,_=>rfl
 | n+1,out=>by
  unfold iM;rw [vL x L n];cases out.getD n false <;> simp
theorem xO (x:Ex) (set:List Bool):(dj x set).length=(cR x).length:=by
 unfold dj;cases fu x set with
 | true=>rw [qCt,vL];simp
 | false=>simp
theorem F0 {x:Ex} {set:List Bool} {k:Nat} (h:(dj x set).getD k false=true):set.getD k false=true:=by
 unfold dj at h;cases hh:fu x set with
 | true =>
  rw [hh,qCt] at h;have h1:=vK x (cR x) _ _ k h;rw [List.getD_eq_getElem?_getD,List.getElem?_map] at h1;by_cases hk:k<(cR x).length
  ·rw [List.getElem?_range hk] at h1;exact h1
  ·rw [List.getElem?_eq_none (by simpa using hk)] at h1;cases h1
 | false =>
  rw [hh,qCf,List.getD_eq_getElem?_getD] at h;by_cases hk:k<(cR x).length
  ·rw [List.getElem?_replicate,if_pos hk] at h;cases h
  ·rw [List.getElem?_replicate,if_neg hk] at h;cases h
theorem NI {x:Ex} (h:nZ x=true):K9 (cR x):=by
 have h1:=(ux h).2.2;unfold cR;rw [h,qCt];unfold nZ at h;simp only [qBa,decide_eq_true_eq] at h;exact h.2.2.2
theorem rc (x:Ex):K9 (cR x):=by
 cases h:nZ x with
 | true=>exact NI h
 | false=>rw [yz h];exact List.Pairwise.nil
structure CI (c:Cs):Prop where
 now:0<=c.now/\c.now<=1073741824
 tv:eV c.queues=true
 len:c.procs.length<=8
 asc:(c.procs.map (·.proc)).Pairwise fS
 cov:∀r∈aD c.queues,r∈c.procs.map (·.proc)
 inv:∀x∈c.procs,PInv c.queues c.now x
theorem bZ {w:Wk} {i:Nat} (hi:i<w.c.procs.length):w.pc i=w.c.procs[i]:=by unfold Wk.pc;simp [hi]
theorem pA {c:Cs} (h:CI c) {i j:Nat} (hi:i<c.procs.length) (hj:j<c.procs.length) (hij:i≠j):c.procs[i].proc≠c.procs[j].proc:=by
 intro e;have hp:=List.pairwise_iff_getElem.1 h.asc;rcases Nat.lt_or_gt_of_ne hij with hlt|hlt
 ·have:=hp i j (by simpa using hi) (by simpa using hj) hlt;simp only [List.getElem_map] at this;rw [e] at this;exact bz _ this
 ·have:=hp j i (by simpa using hj) (by simpa using hi) hlt;simp only [List.getElem_map] at this;rw [e] at this;exact bz _ this
theorem CI.upd {c c':Cs} (h:CI c) {i:Nat} (hi:i<c.procs.length) {y:Pc} (hp:c'.procs=c.procs.set i y) (hn:c'.now=c.now) (hyp:y.proc=c.procs[i].proc) (ht:TP c.queues c'.queues y.proc) (hy:PInv c'.queues c'.now y):CI c':=by
 have hm:c'.procs.map (·.proc)=c.procs.map (·.proc):=by
  rw [hp,List.map_set,hyp];apply List.ext_getElem
  ·simp
  ·intro j h1 h2;rw [List.getElem_set];split
   ·next e=>subst e;simp
   ·rfl
 refine ⟨by rw [hn];exact h.now,ht.v,by rw [hp];simpa using h.len,by rw [hm];exact h.asc,fun r hr=>?_,fun x hx=>?_⟩
 ·rw [hm];rcases ht.sub r hr with e|e
  ·rw [e,hyp];exact List.mem_map.2 ⟨_,List.getElem_mem hi,rfl⟩
  ·exact h.cov r e
 ·rw [hp] at hx;obtain ⟨j,hj,e⟩:=List.mem_iff_getElem.1 hx;rw [List.getElem_set] at e;have hj2:j<c.procs.length:=by simpa using hj
  split at e
  ·subst e;exact hy
  ·next hij =>
   subst e;have h1:=h.inv _ (List.getElem_mem hj2);rw [<-hn] at h1;exact h1.tp ht (by rw [hyp];exact pA h hj2 hi (fun e=>hij e.symm))
def cy (l:List Pc):Nat:=(l.filter (·.waiting)).length
theorem xP {l:List Pc} {i:Nat} (hi:i<l.length) {y:Pc} (h1:l[i].waiting=true) (h2:y.waiting=false):cy (l.set i y)+1=cy l:=by
 unfold cy;induction l generalizing i with
 | nil=>simp at hi
 | cons x l ih =>
  cases i with
  | zero =>
   have h1':x.waiting=true:=h1;rw [List.set_cons_zero,List.filter_cons,List.filter_cons,if_neg (by rw [h2];simp),if_pos h1'];rfl
  | succ i =>
   have:=ih (i:=i) (by simpa using hi) (by simpa using h1);rw [List.set_cons_succ,List.filter_cons,List.filter_cons];cases x.waiting with
   | true=>rw [if_pos rfl,if_pos rfl,List.length_cons,List.length_cons];omega
   | false=>rw [if_neg (by simp),if_neg (by simp)];exact this
theorem pB (l:List Pc):cy l<=l.length:=List.length_filter_le _ _
theorem AS {t:List Qu} {now:Int} {y:Pc} (hs:PStat t y) (hf:∀n,bh t n=true->FitR t n y):PInv t now { y with waiting:=false,req:=Rq.zero,since:=0 } :=
 ⟨⟨hs.vp,hs.cost,hs.led,hs.gen,hs.hf⟩,fun _=>⟨rfl,rfl,fun n hn=>⟨(hf n hn).h,(hf n hn).w⟩⟩,fun h=>by cases h⟩
theorem PInv.regen {t:List Qu} {now:Int} {y:Pc} (h:PInv t now y) (g:Int):PInv t now { y with gen:=bE g } :=
 ⟨⟨h.stat.vp,h.stat.cost,h.stat.led,by have:=pd (n:=g);show 0<=bE g/\bE g<=1073741824;omega,h.stat.hf⟩,fun hw=>by
  obtain ⟨h1,h2,h3⟩:=h.run hw;exact ⟨h1,h2,fun n hn=>⟨(h3 n hn).h,(h3 n hn).w⟩⟩,fun hw=>by
  obtain ⟨h1,h2⟩:=h.wat hw;refine ⟨⟨h1.rq,h1.rs,h1.sn⟩,fun n hn=>?_⟩;have:=h2 n hn;unfold FitW at this ⊢;cases ha:dT (cR y.req.expr) n with
  | none=>rw [ha] at this;exact ⟨this.h,this.w⟩
  | some a =>
   rw [ha] at this;rcases this with ⟨k1,k2⟩|k
   ·exact .inl ⟨k1,k2.h,k2.w⟩
   ·exact .inr k⟩
theorem za {t:List Qu} {x:Ex} (h:iK t x=0):nZ x=true/\Rsl t (cR x):=by
 unfold iK at h;cases hv:nZ x with
 | false=>rw [hv] at h;cases h
 | true =>
  rw [hv] at h;exact ⟨rfl,q9.1 h⟩
def KW (l l':List Pc):Prop:=∀x∈l',x.waiting=true->x∈l
theorem KW.refl (l:List Pc):KW l l:=fun _ h _=>h
theorem KW.trans {a b c:List Pc} (h:KW a b) (k:KW b c):KW a c:=fun x hx hw=>h x (k x hx hw) hw
theorem KW.set {l:List Pc} {i:Nat} {y:Pc} (hy:y.waiting=false):KW l (l.set i y):=fun x hx hw=>by
 rcases List.mem_or_eq_of_mem_set hx with h|rfl
 ·exact h
 ·rw [hy] at hw;cases hw
def KG (l l':List Pc):Prop:=∀x∈l,∃x'∈l',GrP x x'
theorem KG.refl (l:List Pc):KG l l:=fun x h=>⟨x,h,GrP.refl x⟩
theorem KG.trans {a b c:List Pc} (h:KG a b) (k:KG b c):KG a c:=fun x hx=>by
 obtain ⟨y,hy,h1⟩:=h x hx;obtain ⟨z,hz,h2⟩:=k y hy;exact ⟨z,hz,h1.trans h2⟩
theorem KG.set {l:List Pc} {i:Nat} (hi:i<l.length) {y:Pc} (hy:GrP l[i] y):KG l (l.set i y):=fun x hx=>by
 obtain ⟨j,hj,e⟩:=List.mem_iff_getElem.1 hx;by_cases hji:j=i
 ·subst hji;exact ⟨y,List.mem_iff_getElem.2 ⟨j,by simpa using hj,by simp⟩,by rw [<-e];exact hy⟩
 ·exact RM
structure KN (l l':List Pc):Prop where
 nw:∀x∈l,x.waiting=false->x∈l'
 gr:KG l l'
theorem KN.refl (l:List Pc):KN l l:=⟨fun _ h _=>h,KG.refl l⟩
theorem KN.trans {a b c:List Pc} (h:KN a b) (k:KN b c):KN a c:=⟨fun x hx hw=>k.nw x (h.nw x hx hw) hw,h.gr.trans k.gr⟩
theorem KN.set {l:List Pc} {i:Nat} (hi:i<l.length) (hw:l[i].waiting=true) {y:Pc} (hy:GrP l[i] y):KN l (l.set i y):=⟨fun x hx hxw=>by
 obtain ⟨j,hj,e⟩:=List.mem_iff_getElem.1 hx;have hji:j≠i:=fun e2=>by subst e2;rw [e,hxw] at hw;cases hw
 refine List.mem_iff_getElem.2 ⟨j,by simpa using hj,?_⟩;rw [List.getElem_set_ne (fun e2=>hji e2.symm)];exact e,KG.set hi hy⟩
theorem IC {w:Wk} {i:Nat} (h:CI w.c) (hi:i<w.c.procs.length) (hw:(w.pc i).waiting=true) :
  CI (lC w i).c/\cy (lC w i).c.procs+1=cy w.c.procs/\(lC w i).c.procs.length=w.c.procs.length/\(lC w i).c.now=w.c.now/\KW w.c.procs (lC w i).c.procs/\(lC w i).c.procs.map (·.proc)=w.c.procs.map (·.proc)/\KN w.c.procs (lC w i).c.procs/\eZ (lC w i).c.queues=eZ w.c.queues/\FinT (w.pc i) i (cR (w.pc i).req.expr) (dj (w.pc i).req.expr (bN w.c.queues (w.pc i).proc (w.pc i).req.expr)) (w.note 2 (w.pc i).proc):=by
 have hpc:=bZ hi;have hinv:=h.inv _ (List.getElem_mem hi);rw [<-hpc] at hinv;obtain ⟨hwt,hfit⟩:=hinv.wat hw;obtain ⟨hve,hrsl⟩:=za hwt.rs;obtain ⟨y',q1,q2,q3,q4,q5,q6⟩:=vJ (cR (w.pc i).req.expr) (dj (w.pc i).req.expr (bN w.c.queues (w.pc i).proc (w.pc i).req.expr)) (w.note 2 (w.pc i).proc) i (w.pc i) (w.pc i) (xO _ _).symm h.tv rfl hi hinv.stat (LedOf.refl hinv.stat) (fun _ _=>rfl) (rc _) hrsl
  (fun n hn=>by
   have:=hfit n hn;unfold FitW at this;exact ⟨fun a ha=>by rw [ha] at this;exact this,fun ha=>by rw [ha] at this;exact this⟩)
  (fun k hk hb=>by
   have h1:=F0 hb;unfold bN at h1;rw [List.getD_eq_getElem?_getD,List.getElem?_map,qGg hk] at h1;have h2:(bh w.c.queues (cR (w.pc i).req.expr)[k].name && bc (bG w.c.queues (cR (w.pc i).req.expr)[k].name).res (af (bG w.c.queues (cR (w.pc i).req.expr)[k].name).holds (w.pc i).proc) (cR (w.pc i).req.expr)[k].am)=true:=h1;rw [qBa] at h2;exact h2.2)
 have e:∀g:Wk,dB (w.pc i) i (cR (w.pc i).req.expr) (dj (w.pc i).req.expr (bN w.c.queues (w.pc i).proc (w.pc i).req.expr)) (w.note 2 (w.pc i).proc)=g->lC w i=bi (fh g i) i:=fun g hg=>by unfold lC;rw [hg]
 generalize hg:dB (w.pc i) i (cR (w.pc i).req.expr) (dj (w.pc i).req.expr (bN w.c.queues (w.pc i).proc (w.pc i).req.expr)) (w.note 2 (w.pc i).proc)=g at *
 rw [e g rfl];have q2':g.c.procs=w.c.procs.set i y':=q2;have hgi:i<g.c.procs.length:=by rw [q2'];simpa using hi
 have hgp:g.pc i=y':=by rw [bZ hgi];simp [q2']
 have hproc:y'.proc=w.c.procs[i].proc:=by rw [q4.proc,hpc]
 have e2:bi (fh g i) i=g.setP i { y' with waiting:=false,req:=Rq.zero,since:=0,gen:=bE y'.gen }:=by
  unfold bi fh;rw [hgp,pz hgi,rb]
 rw [e2];have hfin:PInv g.c.queues g.c.now { y' with waiting:=false,req:=Rq.zero,since:=0,gen:=bE y'.gen } :=
  (AS q4.stat (fun n hn=>q5 n (by have:=q1.hasE n;rw [this] at hn;exact hn)):PInv g.c.queues g.c.now { y' with waiting:=false,req:=Rq.zero,since:=0 }).regen y'.gen
 have hps:(g.setP i { y' with waiting:=false,req:=Rq.zero,since:=0,gen:=bE y'.gen }).c.procs=w.c.procs.set i { y' with waiting:=false,req:=Rq.zero,since:=0,gen:=bE y'.gen }:=by
  show g.c.procs.set i _=_;rw [q2',List.set_set]
 have hn:g.c.now=w.c.now:=q3;have hmap:(w.c.procs.set i { y' with waiting:=false,req:=Rq.zero,since:=0,gen:=bE y'.gen }).map (·.proc)=w.c.procs.map (·.proc):=by
  rw [List.map_set];apply List.ext_getElem
  ·simp
  ·intro j h1 h2;rw [List.getElem_set];split
   ·next e=>subst e;simp [hproc]
   ·rfl
 refine ⟨h.upd hi hps hn hproc ?_ hfin,?_,by rw [hps];simp,hn,by rw [hps];exact KW.set rfl,by rw [hps];exact hmap,by rw [hps];exact KN.set hi (by rw [<-hpc];exact hw) (by rw [<-hpc];exact ⟨q4.gr.proc,q4.gr.ents,q4.gr.svs⟩),q1.nm,q6⟩
 ·have:y'.proc=(w.pc i).proc:=q4.proc;show TP w.c.queues g.c.queues y'.proc;rw [this];exact q1
 ·rw [hps];exact xP hi (by rw [<-hpc];exact hw) rfl
theorem lc {t:List Qu}:∀{l:List Pc} {k i:Nat},fG t k l=some i->∃j,∃h:j<l.length,i=k+j/\eP t l[j]=true
 | [],_,_,h=>by cases h
 | x :: l,k,i,h=>by
  unfold fG at h;cases hs:eP t x with
  | true =>
   rw [hs,qCt] at h;injection h with h;exact ⟨0,by simp,by omega,hs⟩
  | false =>
   rw [hs,qCf] at h;obtain ⟨j,hj,e,h2⟩:=lc h;exact ⟨j+1,by simpa using hj,by omega,by simpa using h2⟩
theorem vM {t:List Qu}:∀{l:List Pc} {k:Nat},fG t k l=none->∀x∈l,eP t x=false
 | [],_,_,x,hx=>absurd hx (by simp)
 | y :: l,k,h,x,hx=>by
  unfold fG at h;cases hs:eP t y with
  | true=>rw [hs] at h;cases h
  | false =>
   rw [hs,qCf] at h;rcases List.mem_cons.1 hx with rfl|hx
   ·exact hs
   ·exact vM h x hx
theorem mY {l:List Pc} {i:Nat} (hi:i<l.length) (h:l[i].waiting=true):0<cy l:=by
 unfold cy;exact List.length_pos_of_mem (List.mem_filter.2 ⟨List.getElem_mem hi,h⟩)
theorem vN:∀(n:Nat) (w:Wk),CI w.c->cy w.c.procs<=n->CI (be n w).c/\(∀x∈(be n w).c.procs,eP (be n w).c.queues x=false)/\(be n w).c.procs.map (·.proc)=w.c.procs.map (·.proc)/\(be n w).c.now=w.c.now/\cy (be n w).c.procs<=cy w.c.procs/\KW w.c.procs (be n w).c.procs/\KN w.c.procs (be n w).c.procs/\eZ (be n w).c.queues=eZ w.c.queues
 | 0,w,h,hn=>by
  refine ⟨h,fun x hx=>?_,rfl,rfl,Nat.le_refl _,KW.refl _,KN.refl _,rfl⟩;cases hw:x.waiting with
  | false=>unfold eP;rw [hw];rfl
  | true =>
   obtain ⟨i,hi,e⟩:=List.mem_iff_getElem.1 hx;have:=mY hi (by rw [e];exact hw);have hn':cy w.c.procs<=0:=hn;have this':0<cy w.c.procs:=this;omega
 | n+1,w,h,hn=>by
  unfold be;cases hs:fG w.c.queues 0 w.c.procs with
  | none=>exact ⟨h,vM hs,rfl,rfl,Nat.le_refl _,KW.refl _,KN.refl _,rfl⟩
  | some i =>
   obtain ⟨j,hj,e,h2⟩:=lc hs;have e':i=j:=by omega
   subst e';have hwt:(w.pc i).waiting=true:=by
    rw [bZ hj];unfold eP at h2;rw [qBa] at h2;exact h2.1
   obtain ⟨k1,k2,k3,k4,k5,k6,k7,k8,_⟩:=IC h hj hwt;obtain ⟨l1,l2,l3,l4,l5,l6,l7,l8⟩:=vN n (lC w i) k1 (by omega);exact ⟨l1,l2,l3.trans k6,l4.trans k4,Nat.le_trans l5 (by omega),k5.trans l6,k7.trans l7,l8.trans k8⟩
theorem jQ {w:Wk} (h:CI w.c):CI (bQ w).c/\(∀x∈(bQ w).c.procs,eP (bQ w).c.queues x=false)/\(bQ w).c.procs.map (·.proc)=w.c.procs.map (·.proc)/\(bQ w).c.now=w.c.now/\cy (bQ w).c.procs<=cy w.c.procs/\KW w.c.procs (bQ w).c.procs/\KN w.c.procs (bQ w).c.procs/\eZ (bQ w).c.queues=eZ w.c.queues :=
 vN _ w h (pB _)
structure Kp (w w':Wk):Prop where
 kw:KW w.c.procs w'.c.procs
 now:w'.c.now=w.c.now
 pr:w'.c.procs.map (·.proc)=w.c.procs.map (·.proc)
 nm:eZ w'.c.queues=eZ w.c.queues
theorem Kp.trans {a b c:Wk} (h:Kp a b) (k:Kp b c):Kp a c:=⟨h.kw.trans k.kw,k.now.trans h.now,k.pr.trans h.pr,k.nm.trans h.nm⟩
theorem Kp.len {a b:Wk} (h:Kp a b):b.c.procs.length=a.c.procs.length:=by have:=congrArg List.length h.pr;simpa using this
theorem iv {w:Wk} (h:CI w.c):CI (bQ w).c/\(∀x∈(bQ w).c.procs,eP (bQ w).c.queues x=false)/\Kp w (bQ w):=by
 obtain ⟨h1,h2,h3,h4,_,h6,_,h8⟩:=jQ h;exact ⟨h1,h2,h6,h4,h3,h8⟩
theorem mZ {w:Wk} (h:CI w.c):KN w.c.procs (bQ w).c.procs:=(jQ h).2.2.2.2.2.2.1
def KO (p:Pr) (l l':List Pc):Prop:=∀x∈l,x.proc≠p->∃x'∈l',GrP x x'
theorem KO.then {p:Pr} {a b c:List Pc} (h:KO p a b) (k:KG b c):KO p a c:=fun x hx hp=>by
 obtain ⟨y,hy,h1⟩:=h x hx hp;obtain ⟨z,hz,h2⟩:=k y hy;exact ⟨z,hz,h1.trans h2⟩
theorem KO.pre {p:Pr} {a b c:List Pc} (h:KG a b) (k:KO p b c):KO p a c:=fun x hx hp=>by
 obtain ⟨y,hy,h1⟩:=h x hx;obtain ⟨z,hz,h2⟩:=k y hy (by rw [h1.proc];exact hp);exact ⟨z,hz,h1.trans h2⟩
theorem KO.set {p:Pr} {l:List Pc} {i:Nat} (hi:i<l.length) (hp:l[i].proc=p) (y:Pc):KO p l (l.set i y):=fun x hx hxp=>by
 obtain ⟨j,hj,e⟩:=List.mem_iff_getElem.1 hx;have hji:j≠i:=fun e2=>by subst e2;rw [e] at hp;exact hxp hp
 exact RM
theorem GrP.led {x y:Pc} (hp:y.proc=x.proc) (hl:y.led=x.led):GrP x y:=⟨hp,⟨[],by rw [hl];simp⟩,by rw [hl]⟩
theorem Lb {w:Wk} {i:Nat} (hi:i<w.c.procs.length):KG w.c.procs (bi w i).c.procs:=by
 have hps:(bi w i).c.procs=w.c.procs.set i { w.pc i with gen:=bE (w.pc i).gen }:=rfl;rw [hps];exact KG.set hi (GrP.led (by rw [bZ hi]) (by rw [bZ hi]))
theorem f7 {l:List Pc} {i:Nat} (hi:i<l.length) {y:Pc} (hp:y.proc=l[i].proc):(l.set i y).map (·.proc)=l.map (·.proc):=by
 rw [List.map_set];apply List.ext_getElem
 ·simp
 ·intro j h1 h2;rw [List.getElem_set];split
  ·next e=>subst e;simp [hp]
  ·rfl
theorem eU {w:Wk} {i:Nat} (h:CI w.c) (hi:i<w.c.procs.length) (hw:(w.pc i).waiting=true) :
  CI (aC w i).c/\cy (aC w i).c.procs+1=cy w.c.procs/\Kp w (aC w i)/\(aC w i).c.procs=w.c.procs.set i { w.pc i with waiting:=false,req:=Rq.zero,since:=0 }/\∀n,bh (aC w i).c.queues n=true->FitR (aC w i).c.queues n (w.pc i):=by
 have hpc:=bZ hi;have hinv:=h.inv _ (List.getElem_mem hi);rw [<-hpc] at hinv;obtain ⟨hwt,hfit⟩:=hinv.wat hw;obtain ⟨hve,hrsl⟩:=za hwt.rs;obtain ⟨hws,hfr,hdt⟩:=vI (cR (w.pc i).req.expr) w (w.pc i) h.tv hinv.stat (rc _) hrsl hfit;have e:aC w i=fh (fv (w.pc i) (cR (w.pc i).req.expr) w) i:=rfl;generalize hg:fv (w.pc i) (cR (w.pc i).req.expr) w=g at *
 rw [e];have hgi:i<g.c.procs.length:=by rw [hws.procs];exact hi
 have hgp:g.pc i=w.pc i:=by unfold Wk.pc;rw [hws.procs]
 have hps:(fh g i).c.procs=w.c.procs.set i { w.pc i with waiting:=false,req:=Rq.zero,since:=0 }:=by
  unfold fh Wk.setP;rw [hgp];show g.c.procs.set i _=_;rw [hws.procs]
 have hfin:PInv g.c.queues g.c.now { w.pc i with waiting:=false,req:=Rq.zero,since:=0 }:=AS (hinv.stat.tp hws.tp) fun n hn=>hfr n (by rw [hws.tp.hasE] at hn;exact hn);refine ⟨h.upd (c':=(fh g i).c) hi hps hws.now (by rw [hpc]) hws.tp hfin,?_,⟨by rw [hps];exact KW.set rfl,hws.now,by rw [hps];exact f7 hi (by rw [hpc]),hws.tp.nm⟩,hps,fun n hn=>hfr n (by
  have h5:bh g.c.queues n=true:=hn;rw [hws.tp.hasE] at h5;exact h5)⟩
 rw [hps];exact xP hi (by rw [<-hpc];exact hw) rfl
theorem jc {w:Wk} {i:Nat} (h:CI w.c) (hi:i<w.c.procs.length) (hw:(w.pc i).waiting=false):CI (bi w i).c/\Kp w (bi w i)/\cy (bi w i).c.procs=cy w.c.procs:=by
 have hpc:=bZ hi;have hinv:=h.inv _ (List.getElem_mem hi);rw [<-hpc] at hinv;have hps:(bi w i).c.procs=w.c.procs.set i { w.pc i with gen:=bE (w.pc i).gen }:=rfl;refine ⟨h.upd (c':=(bi w i).c) hi hps rfl (by rw [hpc]) (TP.refl h.tv _) (hinv.regen _),⟨by rw [hps];exact KW.set hw,rfl,by rw [hps];exact f7 hi (by rw [hpc]),rfl⟩,?_⟩;rw [hps];unfold cy;have gen:∀(l:List Pc) (i:Nat) (y:Pc),(∀h:i<l.length,l[i].waiting=y.waiting)->((l.set i y).filter (·.waiting)).length=(l.filter (·.waiting)).length:=by
  intro l;induction l with
  | nil=>intro i y _;rfl
  | cons x l ih =>
   intro i y hxy;cases i with
   | zero =>
    have:x.waiting=y.waiting:=hxy (by simp);rw [List.set_cons_zero,List.filter_cons,List.filter_cons,this];cases y.waiting <;> rfl
   | succ i =>
    have:=ih i y (fun h=>by have:=hxy (by simpa using h);simpa using this);rw [List.set_cons_succ,List.filter_cons,List.filter_cons];cases x.waiting with
    | true=>rw [if_pos rfl,if_pos rfl,List.length_cons,List.length_cons,this]
    | false=>rw [if_neg (by simp),if_neg (by simp),this]
 exact gen _ _ _ fun h=>by rw [<-hpc]
theorem ow {w:Wk} {i:Nat} (h:CI w.c) (hi:i<w.c.procs.length) (hw:(w.pc i).waiting=true):DrT (w.pc i) (cR (w.pc i).req.expr) w:=by
 have hpc:=bZ hi;have hinv:=h.inv _ (List.getElem_mem hi);rw [<-hpc] at hinv;obtain ⟨hwt,hfit⟩:=hinv.wat hw;obtain ⟨hve,hrsl⟩:=za hwt.rs;exact (vI (cR (w.pc i).req.expr) w (w.pc i) h.tv hinv.stat (rc _) hrsl hfit).2.2
def NJ (w:Wk) (i:Nat) (r:Rq):Wk:=bi (w.setP i { w.pc i with waiting:=true,req:=r,since:=w.c.now }) i
def GN (w:Wk) (i:Nat) (r:Rq):Wk:=dC (w.pc i).proc r.prio (cR r.expr) (NJ w i r)
theorem sX {w:Wk} {i:Nat} {r:Rq} (h:CI w.c) (hi:i<w.c.procs.length) (hw:(w.pc i).waiting=false) (hq:qW r=true) (hr:iK w.c.queues r.expr=0) :
  CI (GN w i r).c/\(GN w i r).c.procs=w.c.procs.set i { w.pc i with waiting:=true,req:=r,since:=w.c.now,gen:=bE (w.pc i).gen }/\(GN w i r).c.now=w.c.now/\eZ (GN w i r).c.queues=eZ w.c.queues:=by
 have hpc:=bZ hi;unfold GN NJ;have hinv:=h.inv _ (List.getElem_mem hi);rw [<-hpc] at hinv;obtain ⟨_,_,hrun⟩:=hinv.run hw;obtain ⟨hve,hrsl⟩:=za hr;have hx:bi (w.setP i { w.pc i with waiting:=true,req:=r,since:=w.c.now }) i=w.setP i { w.pc i with waiting:=true,req:=r,since:=w.c.now,gen:=bE (w.pc i).gen }:=by
  unfold bi;rw [pz hi,rb]
 rw [hx];have hst:PStat w.c.queues { w.pc i with waiting:=true,req:=r,since:=w.c.now,gen:=bE (w.pc i).gen }:=⟨hinv.stat.vp,hinv.stat.cost,hinv.stat.led,by have:=pd (n:=(w.pc i).gen);show 0<=bE (w.pc i).gen/\bE (w.pc i).gen<=1073741824;omega,hinv.stat.hf⟩;have hprio:0<=r.prio/\r.prio<=7:=by unfold qW at hq;simp only [qBa,decide_eq_true_eq] at hq;exact ⟨hq.1.1.1.2,hq.1.1.2⟩
 obtain ⟨hws,hfw,_⟩:=xN (w.c.procs.map (fun x:Pc=>x.proc)) (by simpa using h.len) (cR r.expr) [] (w.setP i { w.pc i with waiting:=true,req:=r,since:=w.c.now,gen:=bE (w.pc i).gen }) { w.pc i with waiting:=true,req:=r,since:=w.c.now,gen:=bE (w.pc i).gen } h.tv hst (List.mem_map.2 ⟨_,List.getElem_mem hi,by rw [<-hpc]⟩) h.cov hprio (rc _) hrsl
  (fun n hn=>by
   have h1:FitR w.c.queues n { w.pc i with waiting:=true,req:=r,since:=w.c.now,gen:=bE (w.pc i).gen }:=(hrun n hn).led rfl rfl;refine ⟨fun h2=>?_,fun a _=>h1⟩;unfold FitW;rw [List.nil_append,h2];exact h1)
 rw [List.nil_append] at hfw;have e:dC (w.pc i).proc r.prio (cR r.expr) (w.setP i { w.pc i with waiting:=true,req:=r,since:=w.c.now,gen:=bE (w.pc i).gen })=dC ({ w.pc i with waiting:=true,req:=r,since:=w.c.now,gen:=bE (w.pc i).gen }:Pc).proc ({ w.pc i with waiting:=true,req:=r,since:=w.c.now,gen:=bE (w.pc i).gen }:Pc).req.prio (cR r.expr) (w.setP i { w.pc i with waiting:=true,req:=r,since:=w.c.now,gen:=bE (w.pc i).gen }):=rfl;rw [e];generalize dC ({ w.pc i with waiting:=true,req:=r,since:=w.c.now,gen:=bE (w.pc i).gen }:Pc).proc ({ w.pc i with waiting:=true,req:=r,since:=w.c.now,gen:=bE (w.pc i).gen }:Pc).req.prio (cR r.expr) (w.setP i { w.pc i with waiting:=true,req:=r,since:=w.c.now,gen:=bE (w.pc i).gen })=g at *
 have hps:g.c.procs=w.c.procs.set i { w.pc i with waiting:=true,req:=r,since:=w.c.now,gen:=bE (w.pc i).gen }:=hws.procs;have hnow:g.c.now=w.c.now:=hws.now;have hpv:PInv g.c.queues g.c.now { w.pc i with waiting:=true,req:=r,since:=w.c.now,gen:=bE (w.pc i).gen }:=by
  refine ⟨hst.tp hws.tp,fun hf=>(by cases hf),fun _=>⟨⟨hq,?_,?_⟩,fun n hn=>?_⟩⟩
  ·rw [Eh hws.tp];exact hr
  ·rw [hnow];exact ⟨h.now.1,Int.le_refl _⟩
  ·exact hfw n (by rw [hws.tp.hasE] at hn;exact hn)
 have hci:=h.upd (c':=g.c) hi hps hnow (by rw [hpc]) hws.tp hpv;exact ⟨hci,hps,hnow,hws.tp.nm⟩
theorem vO {w:Wk} {i:Nat} {r:Rq} (h:CI w.c) (hi:i<w.c.procs.length) (he:(cQ w i r).2=0) :
  CI (cQ w i r).1.c/\(∀x∈(cQ w i r).1.c.procs,eP (cQ w i r).1.c.queues x=false)/\(cQ w i r).1.c.now=w.c.now/\(cQ w i r).1.c.procs.map (·.proc)=w.c.procs.map (·.proc)/\(∀x∈(cQ w i r).1.c.procs,x.waiting=true->x∈w.c.procs\/(x = { w.pc i with waiting:=true,req:=r,since:=w.c.now,gen:=bE (w.pc i).gen }))/\KG w.c.procs (cQ w i r).1.c.procs/\eZ (cQ w i r).1.c.queues=eZ w.c.queues:=by
 unfold cQ at he ⊢;cases hw:(w.pc i).waiting with
 | true=>rw [hw] at he;simp at he
 | false =>
  rw [hw] at he;simp only [qCf] at he ⊢;cases hq:qW r with
  | false=>rw [hq] at he;simp at he
  | true =>
   rw [hq] at he;simp only [Bool.not_true,qCf] at he ⊢;by_cases hr:iK w.c.queues r.expr=0
   ·rw [qDt hr];simp only [Bool.not_true,qCf];have hpc:=bZ hi;obtain ⟨hci,hps,hnow,hnm⟩:=sX h hi hw hq hr;have e:dC (w.pc i).proc r.prio (cR r.expr) (bi (w.setP i { w.pc i with waiting:=true,req:=r,since:=w.c.now }) i)=GN w i r:=rfl;rw [e];generalize GN w i r=g at *
    obtain ⟨k1,k2,k3⟩:=iv hci;refine ⟨k1,k2,k3.now.trans hnow,k3.pr.trans (by rw [hps];exact f7 hi (by rw [hpc])),fun x hx hxw=>?_,KG.trans (by rw [hps];exact KG.set hi (GrP.led (by rw [hpc]) (by rw [hpc]))) (mZ hci).gr,k3.nm.trans hnm⟩;have h5:=k3.kw x hx hxw;rw [hps] at h5;rcases List.mem_or_eq_of_mem_set h5 with h6|rfl
    ·exact .inl h6
    ·exact .inr rfl
   ·rw [qDf hr] at he;simp only [Bool.not_false,qCt] at he;exact absurd he hr
theorem F4 {g:Lg} (h:Ld g) {n:ByteArray} (hn:aw g.entries n≠⟨0,0⟩):(mi g n).1=iI g n:=by
 have hne:(iI g n).entries.length≠g.entries.length:=by
  intro e;have h1:g.entries.filter (oth n)=g.entries:=List.Sublist.eq_of_length List.filter_sublist e;have h2:=kv n n g.entries;rw [h1,if_pos rfl] at h2;exact hn h2
 unfold mi;rw [fZ.2 h,qDf hne];rfl
def tn (w:Wk) (i:Nat) (n:ByteArray):Wk:=bi ((fK w (w.pc i).proc ⟨n,⟨0,0⟩⟩).setP i { w.pc i with led:=(mi (w.pc i).led n).1 }) i
theorem sY {w:Wk} {i:Nat} {n:ByteArray} (h:CI w.c) (hi:i<w.c.procs.length) (hw:(w.pc i).waiting=false) (h0:aw (w.pc i).led.entries n≠⟨0,0⟩) :
  CI (tn w i n).c/\(tn w i n).c.procs=w.c.procs.set i { w.pc i with led:=iI (w.pc i).led n,gen:=bE (w.pc i).gen }/\(tn w i n).c.now=w.c.now/\eZ (tn w i n).c.queues=eZ w.c.queues:=by
 have hpc:=bZ hi;unfold tn;have hinv:=h.inv _ (List.getElem_mem hi);rw [<-hpc] at hinv;obtain ⟨hrq,hsn,hrun⟩:=hinv.run hw;obtain ⟨hn,hfit⟩:=hinv.stat.hf n h0;have hfr:=hrun n hn;have hcov:bc (bG w.c.queues n).res (af (bG w.c.queues n).holds (w.pc i).proc) ⟨0,0⟩=true:=by
  rw [hfr.h];have p0:bI (bG w.c.queues n).res ⟨0,0⟩=true:=by unfold bI aJ;rw [q7 h.tv hn];rfl
  unfold bc;rw [df hfit,p0];rfl
 obtain ⟨_,hst,k1,k2⟩:=qZ (p:=(w.pc i).proc) (a:=⟨n,⟨0,0⟩⟩) h.tv hn (by rw [hfr.h];exact h0) hfr.w hcov;have hws:WS w (fK w (w.pc i).proc ⟨n,⟨0,0⟩⟩) (w.pc i).proc (· = n):=WS.take h.tv hst;generalize hg:fK w (w.pc i).proc ⟨n,⟨0,0⟩⟩=g at *
 have hgq:g.c.queues=(cO w.c.queues (w.pc i).proc ⟨n,⟨0,0⟩⟩).1:=by rw [<-hg];rfl
 rw [<-hgq] at k1 k2;have hgi:i<g.c.procs.length:=by rw [hws.procs];exact hi
 have hgp:g.pc i=w.pc i:=by unfold Wk.pc;rw [hws.procs]
 have hdr:=F4 hinv.stat.led h0;have hx:bi (g.setP i { w.pc i with led:=(mi (w.pc i).led n).1 }) i=g.setP i { w.pc i with led:=iI (w.pc i).led n,gen:=bE (w.pc i).gen }:=by
  unfold bi;rw [pz hgi,rb,hdr]
 rw [hx];have hlh:∀m,g6 { w.pc i with led:=iI (w.pc i).led n,gen:=bE (w.pc i).gen } m=if m=n then ⟨0,0⟩ else g6 (w.pc i) m:=fun m=>kv n m _
 have hps:(g.setP i { w.pc i with led:=iI (w.pc i).led n,gen:=bE (w.pc i).gen }).c.procs=w.c.procs.set i { w.pc i with led:=iI (w.pc i).led n,gen:=bE (w.pc i).gen }:=by
  show g.c.procs.set i _=_;rw [hws.procs]
 have hpv:PInv g.c.queues g.c.now { w.pc i with led:=iI (w.pc i).led n,gen:=bE (w.pc i).gen }:=by
  refine ⟨⟨hinv.stat.vp,hinv.stat.cost,KU hinv.stat.led n,by have:=pd (n:=(w.pc i).gen);show 0<=bE (w.pc i).gen/\bE (w.pc i).gen<=1073741824;omega,fun m hm=>?_⟩,fun _=>⟨hrq,hsn,fun m hm=>?_⟩,fun hf=>by
   have:(w.pc i).waiting=true:=hf;rw [hw] at this;cases this⟩
  ·rw [hlh] at hm ⊢;by_cases e:m=n
   ·rw [if_pos e] at hm;exact absurd rfl hm
   ·rw [if_neg e] at hm ⊢;exact (hinv.stat.tp hws.tp).hf m hm
  ·rw [hws.tp.hasE] at hm;by_cases e:m=n
   ·subst e;exact ⟨by rw [hlh,if_pos rfl];exact k1,k2⟩
   ·have e1:=hws.oth m e hm;exact ((hrun m hm).eq e1).led rfl (by rw [hlh,if_neg e])
 have hci:=h.upd (c':=(g.setP i { w.pc i with led:=iI (w.pc i).led n,gen:=bE (w.pc i).gen }).c) hi hps hws.now (by rw [hpc]) hws.tp hpv;exact ⟨hci,hps,hws.now,hws.tp.nm⟩
theorem vP {w:Wk} {i:Nat} {n:ByteArray} (h:CI w.c) (hi:i<w.c.procs.length) (he:(eQ w i n).2=0) :
  CI (eQ w i n).1.c/\(∀x∈(eQ w i n).1.c.procs,eP (eQ w i n).1.c.queues x=false)/\Kp w (eQ w i n).1/\KO (w.pc i).proc w.c.procs (eQ w i n).1.c.procs:=by
 unfold eQ at he ⊢;cases hw:(w.pc i).waiting with
 | true=>rw [hw] at he;simp at he
 | false =>
  rw [hw] at he;simp only [qCf] at he ⊢;by_cases h0:aw (w.pc i).led.entries n=⟨0,0⟩
  ·rw [qDt h0] at he;simp at he
  ·rw [qDf h0];simp only [qCf];have hpc:=bZ hi;obtain ⟨hci,hps,hnow,hnm⟩:=sY h hi hw h0;have e:bi ((fK w (w.pc i).proc ⟨n,⟨0,0⟩⟩).setP i { (fK w (w.pc i).proc ⟨n,⟨0,0⟩⟩).pc i with led:=(mi ((fK w (w.pc i).proc ⟨n,⟨0,0⟩⟩).pc i).led n).1 }) i=tn w i n:=rfl;rw [e];generalize tn w i n=g at *
   obtain ⟨q1,q2,q3⟩:=iv hci;have hk:Kp w g:=⟨by rw [hps];exact KW.set hw,hnow,by rw [hps];exact f7 hi (by rw [hpc]),hnm⟩;exact ⟨q1,q2,hk.trans q3,KO.then (by rw [hps];exact KO.set hi (by rw [hpc]) _) (mZ hci).gr⟩
theorem ld {r:Rs} {b a:Am} (hb:aH r b=true) (h:a=⟨0,0⟩\/Mq b a):bc r b a=true:=by
 have hs:aW r=true:=by unfold aH at hb;rw [qBa] at hb;exact hb.1
 rcases h with rfl|h
 ·have p0:bI r ⟨0,0⟩=true:=by unfold bI aJ;rw [hs];rfl
  unfold bc;rw [df hb,p0];rfl
 ·rcases h with rfl|⟨h1,h2,h3⟩
  ·exact me hb
  ·have hfb:=hb;unfold aH at hfb;have key:aH r a=true/\(if r.kind=1 then dK b.mode a.mode else decide (a.units<=b.units))=true:=by
    rcases cj hs with ⟨hk,_⟩|⟨hk,_⟩
    ·rw [if_pos hk] at hfb ⊢;simp only [qBa,decide_eq_true_eq,fP] at hfb;rcases h3 with ⟨h4,h5⟩|⟨_,h4,_⟩
     ·refine ⟨?_,h5⟩;unfold aH;rw [if_pos hk,hs];rcases cV h1 with ⟨h6,h7⟩|⟨h6,_⟩
      ·rw [h6,h7];rfl
      ·exact absurd h6 h4
     ·omega
    ·have hk1:¬r.kind=1:=by omega
     rw [if_neg hk1] at hfb ⊢;simp only [qBa,decide_eq_true_eq] at hfb;rcases h3 with ⟨_,h5⟩|⟨h4,_,h5⟩
     ·rw [pk] at h5;omega
     ·refine ⟨?_,by rw [decide_eq_true_eq];omega⟩;unfold aH;rw [if_neg hk1,hs];simp only [qBa,decide_eq_true_eq,Bool.true_and];rcases cV h1 with ⟨h6,_⟩|⟨_,h6,_⟩
      ·rw [fP] at h6;omega
      ·omega
   unfold bc;rw [df hb,df key.1,eF hb,key.2];simp
def LwT (p:Pr):List Tm->Wk->Prop
 | [],_=>True
 | a :: l,w=>bh w.c.queues a.name=true/\LwT p l (di w p a.name a.am)
theorem xQ:∀(l:List Tm) (w:Wk) (x y:Pc),eV w.c.queues=true->PStat w.c.queues x->y.proc=x.proc->K9 l->
  (∀a∈l,a.am=g6 y a.name/\g6 x a.name≠⟨0,0⟩/\(a.am=⟨0,0⟩\/Mq (g6 x a.name) a.am))->
  (∀n,bh w.c.queues n=true->(∀a,dT l n=some a->FitR w.c.queues n x)/\(dT l n=none->FitR w.c.queues n y))->
  WS w (cz x.proc l w) x.proc (fun _=>True)/\(∀n,bh w.c.queues n=true->FitR (cz x.proc l w).c.queues n y)/\LwT x.proc l w
 | [],w,x,y,hv,_,_,_,_,hf=>⟨WS.refl hv _ _,fun n hn=>(hf n hn).2 rfl,trivial⟩
 | a :: l,w,x,y,hv,hs,hp,hnd,hl,hf=>by
  obtain ⟨h1,h2⟩:=List.pairwise_cons.1 hnd;obtain ⟨e1,e2,e3⟩:=hl a (by simp);obtain ⟨hn,hfit⟩:=hs.hf a.name e2;have hfr:FitR w.c.queues a.name x:=(hf a.name hn).1 a (by rw [ef,aZ.2 rfl];rfl);have hnone:dT l a.name=none:=iQ.2 fun b hb e=>h1 b hb e.symm;have hat:∀n,n≠a.name->dT (a :: l) n=dT l n:=fun n hn=>by rw [ef,cb.2 (fun h=>hn h.symm)];rfl
  have step:∃g,di w x.proc a.name a.am=g/\WS w g x.proc (· = a.name)/\FitR g.c.queues a.name y:=by
   unfold di;by_cases hd:af (bG w.c.queues a.name).holds x.proc=a.am
   ·rw [qDt hd];exact ⟨w,rfl,WS.refl hv _ _,by rw [hp,hd,e1],by rw [hp];exact hfr.w⟩
   ·rw [qDf hd];obtain ⟨_,hst,k1,k2⟩:=qZ (p:=x.proc) (a:=⟨a.name,a.am⟩) hv hn (by rw [hfr.h];exact e2) hfr.w (by rw [hfr.h];exact ld hfit e3);exact ⟨_,rfl,WS.take hv hst,by rw [hp,<-e1];exact k1,by rw [hp];exact k2⟩
  obtain ⟨g,hg,hws,hfy⟩:=step;have e:cz x.proc (a :: l) w=cz x.proc l g:=by
   show cz x.proc l (di w x.proc a.name a.am)=_;rw [hg]
  rw [e];have ih:=xQ l g x y hws.tp.v (hs.tp hws.tp) hp h2 (fun b hb=>hl b (by simp [hb])) (fun n hn2=>by
   rw [hws.tp.hasE] at hn2;by_cases en:n=a.name
   ·subst en;exact ⟨fun b hb=>(by rw [hnone] at hb;cases hb),fun _=>hfy⟩
   ·have h3:=hf n hn2;rw [hat n en] at h3;have e4:=hws.oth n en hn2;exact ⟨fun b hb=>(h3.1 b hb).eq e4,fun h4=>(h3.2 h4).eq e4⟩)
  exact ⟨(hws.mono fun _ _=>trivial).trans ih.1,fun n hn2=>ih.2.1 n (by rw [hws.tp.hasE];exact hn2),hn,by rw [hg];exact ih.2.2⟩
theorem gy (n:ByteArray):∀(m:List En) (a:Am),(∀e∈m,e.name≠n)->dI n a m=a
 | [],_,_=>rfl
 | e :: m,a,h=>by
  show dI n (bif aV e.name n then e.after else a) m=a;rw [cb.2 (h e (by simp))];exact gy n m a fun f hf=>h f (by simp [hf])
theorem mr {l:List En} {k:Nat} {n:ByteArray} (h:n ∉ bt (l.drop k)):aw l n=aw (l.take k) n:=by
 conv=>lhs;rw [<-List.take_append_drop k l]
 unfold aw;rw [oc,gy n (l.drop k) _ fun e he e2=>h (cP.2 ⟨e,he,e2⟩)]
structure Rest (w w1:Wk) (i:Nat):Prop where
 ci:CI w1.c
 hi:i<w1.c.procs.length
 kp:Kp w w1
 led:(w1.pc i).led=(w.pc i).led
 proc:(w1.pc i).proc=(w.pc i).proc
 run:(w1.pc i).waiting=false
 kg:KG w.c.procs w1.c.procs
theorem Lc {w:Wk} {i:Nat} (h:CI w.c) (hi:i<w.c.procs.length):Rest w (bif (w.pc i).waiting then aC w i else w) i:=by
 cases hw:(w.pc i).waiting with
 | false=>exact ⟨h,hi,⟨KW.refl _,rfl,rfl,rfl⟩,rfl,rfl,hw,KG.refl _⟩
 | true =>
  obtain ⟨k1,_,k3,k4,_⟩:=eU h hi hw;have hlen:i<(aC w i).c.procs.length:=by rw [k3.len];exact hi
  have hp:(aC w i).pc i = { w.pc i with waiting:=false,req:=Rq.zero,since:=0 }:=by rw [bZ hlen];simp [k4]
  exact ⟨k1,hlen,k3,by rw [qCt,hp],by rw [qCt,hp],by rw [qCt,hp],by rw [qCt,k4];exact KG.set hi (GrP.led (by rw [bZ hi]) (by rw [bZ hi]))⟩
def rd (w:Wk) (i:Nat):Wk:=bif (w.pc i).waiting then aC w i else w
def AT (w:Wk) (i:Nat) (n:Int):Wk:=(rd w i).setP i { (rd w i).pc i with led:=(cd (w.pc i).led n).1 }
def re (w:Wk) (i:Nat) (n:Int):Wk:=bi (cz (w.pc i).proc (cd (w.pc i).led n).2.1 (AT w i n)) i
theorem pC {w:Wk} {i:Nat} {n:Int} (h:CI w.c) (hi:i<w.c.procs.length) (hu:(cd (w.pc i).led n).2.2=0) :
  LwT (w.pc i).proc (cd (w.pc i).led n).2.1 (AT w i n)/\CI (re w i n).c/\Kp w (re w i n)/\KO (w.pc i).proc w.c.procs (re w i n).c.procs/\∃y∈(re w i n).c.procs,y.proc=(w.pc i).proc/\y.waiting=false/\y.led=bw (w.pc i).led n:=by
 obtain ⟨hld,hld2,hue,htk⟩:=D3 hu;have hr:Rest w (rd w i) i:=Lc h hi;unfold re AT;generalize rd w i=w1 at *
 have hpc:=bZ hr.hi;have hinv:=hr.ci.inv _ (List.getElem_mem hr.hi);rw [<-hpc] at hinv;obtain ⟨hrq,hsn,hrun⟩:=hinv.run hr.run;rw [hue];dsimp only;have hst:=hinv.stat;have hlt:∀m,g6 { w1.pc i with led:=bw (w.pc i).led n } m=aw ((w1.pc i).led.entries.take (bw (w.pc i).led n).entries.length) m:=by
  intro m;show aw (bw (w.pc i).led n).entries m=_;rw [hr.led];exact congrArg (aw · m) htk
 have hst2:PStat w1.c.queues { w1.pc i with led:=bw (w.pc i).led n }:=by
  refine ⟨hst.vp,hst.cost,hld2,hst.gen,fun m hm=>?_⟩;rw [hlt] at hm ⊢;rcases qS hst.led.ents m (bw (w.pc i).led n).entries.length with h1|h1
  ·exact absurd h1 hm
  ·have hne:g6 (w1.pc i) m≠⟨0,0⟩:=by
    intro e0;have e0':aw (w1.pc i).led.entries m=⟨0,0⟩:=e0;rw [e0'] at h1;rcases h1 with h1|⟨_,h2,_⟩
    ·exact hm h1
    ·exact absurd h2 (by decide)
   obtain ⟨k1,k2⟩:=hst.hf m hne;refine ⟨k1,?_⟩;have hc:=ld k2 (.inr h1);unfold bc bI at hc;simp only [qBa,Bool.or_eq_true] at hc;rcases hc.1.2.2 with h3|h3
   ·exact absurd (of_decide_eq_true h3) hm
   ·exact h3
 have hw2:(w1.setP i { w1.pc i with led:=bw (w.pc i).led n }).c.queues=w1.c.queues:=rfl;obtain ⟨hws,hfy,hlw⟩:=xQ ((bt ((w.pc i).led.entries.drop (bw (w.pc i).led n).entries.length)).map fun m=>(⟨m,aw (bw (w.pc i).led n).entries m⟩:Tm)) (w1.setP i { w1.pc i with led:=bw (w.pc i).led n }) (w1.pc i) { w1.pc i with led:=bw (w.pc i).led n } hr.ci.tv hst rfl
  (by
   have h1:=ku (gv ((w.pc i).led.entries.drop (bw (w.pc i).led n).entries.length));unfold K9;rw [List.pairwise_map];exact h1.imp fun {a b} (hab:a≠b)=>hab)
  (fun a ha=>by
   obtain ⟨m,hm,rfl⟩:=List.mem_map.1 ha;refine ⟨rfl,?_,?_⟩
   ·obtain ⟨e,he2,hen⟩:=cP.1 hm;have:=Ei hld.ents e (List.mem_of_mem_drop he2);rw [hen,<-hr.led] at this;exact this
   ·have h1:=qS hst.led.ents m (bw (w.pc i).led n).entries.length;rw [<-hlt m] at h1;exact h1)
  (fun m hm=>by
   have hm':bh w1.c.queues m=true:=hm;refine ⟨fun a _=>hrun m hm',fun hno=>(hrun m hm').led rfl ?_⟩;rw [hlt];have h1:m ∉ bt ((w1.pc i).led.entries.drop (bw (w.pc i).led n).entries.length):=by
    rw [hr.led];intro hmem;exact iQ.1 hno ⟨m,aw (bw (w.pc i).led n).entries m⟩ (List.mem_map.2 ⟨m,hmem,rfl⟩) rfl
   exact (mr h1).symm)
 rw [<-hr.proc];refine ⟨hlw,?_⟩;clear hlw;generalize cz (w1.pc i).proc ((bt ((w.pc i).led.entries.drop (bw (w.pc i).led n).entries.length)).map fun m=>(⟨m,aw (bw (w.pc i).led n).entries m⟩:Tm)) (w1.setP i { w1.pc i with led:=bw (w.pc i).led n })=g at *
 have hps:g.c.procs=w1.c.procs.set i { w1.pc i with led:=bw (w.pc i).led n }:=hws.procs;have hpv:PInv g.c.queues g.c.now { w1.pc i with led:=bw (w.pc i).led n } :=
  ⟨hst2.tp hws.tp,fun _=>⟨hrq,hsn,fun m hm=>hfy m (by
   rw [hws.tp.hasE] at hm;exact hm)⟩,fun hf=>by
   have:(w1.pc i).waiting=true:=hf;rw [hr.run] at this;cases this⟩
 have hci:=hr.ci.upd (c':=g.c) hr.hi hps hws.now (by rw [hpc]) hws.tp hpv;have hgi:i<g.c.procs.length:=by rw [hps];simpa using hr.hi
 have hgp:g.pc i = { w1.pc i with led:=bw (w.pc i).led n }:=by rw [bZ hgi];simp [hps]
 obtain ⟨n1,n2,_⟩:=jc hci hgi (by rw [hgp];exact hr.run);have hk:Kp w1 g:=⟨by rw [hps];exact KW.set hr.run,hws.now,by rw [hps];exact f7 hr.hi (by rw [hpc]),hws.tp.nm⟩;refine ⟨n1,(hr.kp.trans hk).trans n2,?_,?_⟩
 ·refine KO.then (KO.pre hr.kg ?_) (Lb hgi);rw [hps];exact KO.set hr.hi (by rw [<-hpc]) _
 ·refine ⟨{ g.pc i with gen:=bE (g.pc i).gen },List.mem_iff_getElem.2 ⟨i,by show i<(g.c.procs.set i _).length;simpa using hgi,by show (g.c.procs.set i _)[i]'_=_;simp⟩,?_,?_,?_⟩
  ·show (g.pc i).proc=_;rw [hgp]
  ·show (g.pc i).waiting=false;rw [hgp];exact hr.run
  ·show (g.pc i).led=_;rw [hgp]
theorem mt {w:Wk} {i:Nat} {n:Int} (h:CI w.c) (hi:i<w.c.procs.length) (he:(cu w i n).2=0) :
  CI (cu w i n).1.c/\(∀x∈(cu w i n).1.c.procs,eP (cu w i n).1.c.queues x=false)/\Kp w (cu w i n).1/\KO (w.pc i).proc w.c.procs (cu w i n).1.c.procs/\∃y∈(cu w i n).1.c.procs,y.proc=(w.pc i).proc/\y.waiting=false/\y.led=bw (w.pc i).led n:=by
 unfold cu at he ⊢;by_cases hu:(cd (w.pc i).led n).2.2=0
 ·rw [qDt hu];simp only [Bool.not_true,qCf];obtain ⟨_,n1,n2,hko,y,hy,hy1,hy2,hy3⟩:=pC h hi hu;have e:bi (cz (w.pc i).proc (cd (w.pc i).led n).2.1 ((bif (w.pc i).waiting then aC w i else w).setP i { (bif (w.pc i).waiting then aC w i else w).pc i with led:=(cd (w.pc i).led n).1 })) i=re w i n:=rfl;rw [e];generalize re w i n=g at *
  obtain ⟨q1,q2,q3⟩:=iv n1;have hkn:=mZ n1;exact ⟨q1,q2,n2.trans q3,hko.then hkn.gr,y,hkn.nw _ hy hy2,hy1,hy2,hy3⟩
 ·rw [qDf hu] at he;simp only [Bool.not_false,qCt] at he;exact absurd he hu
def gz (p:Pr) (q:Qu):Qu:=bif !dY q p then q else (br q p).1
theorem jd (p:Pr):∀t:List Qu,(aU p t).1=t.map (gz p)
 | []=>rfl
 | q :: t=>by
  rw [List.map_cons,<-jd p t];have e:aU p (q :: t)=bif !dY q p then (q :: (aU p t).1,(aU p t).2) else
   ((br q p).1 :: (aU p t).1,(bif aJ (af q.holds p) then [] else [⟨3,p,q.res.name,⟨0,0⟩⟩])++bo (br q p).1.res.name (br q p).2.1++(aU p t).2):=rfl
  rw [e];unfold gz;cases dY q p <;> rfl
theorem lf {p:Pr} {q:Qu} (h:ai q=true):Out q (gz p q) p/\dY (gz p q) p=false:=by
 unfold gz;cases hh:dY q p with
 | false=>exact ⟨Out.same p h,hh⟩
 | true =>
  obtain ⟨h1,h2,h3⟩:=Aw (yU h hh);refine ⟨h1,?_⟩;show dY (br q p).1 p=false;unfold dY;rw [h2,h3];rfl
theorem pD {f:Qu->Qu} (hf:∀q,ai q=true->ai (f q)=true/\(f q).res=q.res):∀{l:List Qu} {o:Option ByteArray},jz o l=true->jz o (l.map f)=true
 | [],_,h=>h
 | q :: l,o,h=>by
  rw [ct] at h;simp only [qBa] at h;obtain ⟨h1,h2⟩:=hf q h.1.1;rw [List.map_cons,ct,h2];simp only [qBa];exact ⟨⟨h1,h.1.2⟩,pD hf h.2⟩
theorem m9 {t:List Qu} (hv:eV t=true) (p:Pr):TP t (bM t p).1 p/\p ∉ aD (bM t p).1:=by
 have e:(bM t p).1=t.map (gz p):=by
  unfold bM;rw [hv];exact jd p t
 rw [e];obtain ⟨h1,h2,h3⟩:=cm hv;have hsd:∀q∈t,ai q=true:=fun q hq=>dc hv hq;have hnm:eZ (t.map (gz p))=eZ t:=by
  unfold eZ;rw [List.map_map];exact List.map_congr_left fun q hq=>by
   show (gz p q).res.name=_;rw [(lf (hsd q hq)).1.res]
 have hnp:p ∉ aD (t.map (gz p)):=by
  intro hm;unfold aD at hm;rw [bf,et] at hm;obtain ⟨q,hq,hpq⟩:=hm;obtain ⟨q0,hq0,rfl⟩:=List.mem_map.1 hq;have k:=lf (p:=p) (hsd q0 hq0);have:=(dH (aG k.1.ok) p).1 hpq;rw [k.2] at this;cases this
 have hsub:∀r∈aD (t.map (gz p)),r=p\/r∈aD t:=by
  intro r hr;by_cases hrp:r=p
  ·exact .inl hrp
  ·right
   unfold aD at hr ⊢;rw [bf,et] at hr ⊢;obtain ⟨q,hq,hrq⟩:=hr;obtain ⟨q0,hq0,rfl⟩:=List.mem_map.1 hq;have k:=lf (p:=p) (hsd q0 hq0);exact ⟨q0,hq0,(dH (aG (hsd q0 hq0)) r).2 ((k.1.eff r hrp).has ((dH (aG k.1.ok) r).1 hrq))⟩
 refine ⟨⟨?_,hnm,fun n hn=>?_,hsub⟩,hnp⟩
 ·unfold eV cM;simp only [qBa,decide_eq_true_eq];refine ⟨⟨by simpa using h1,pD (fun q hq=>⟨(lf hq).1.ok,(lf hq).1.res⟩) h2⟩,?_⟩;have:=el (m:=aD t) (fa (t.map (gz p))) fun r hr=>by
   rcases hsub r hr with e|e
   ·exact absurd (e▸hr) hnp
   ·exact e
  omega
 ·obtain ⟨i,hi,e1,e2,e3⟩:=qY hn;have e4:bG (t.map (gz p)) n=gz p (bG t n):=by
   rw [e3];unfold bG;rw [(jN hnm n).2,e1];simp [hi]
  rw [e4];exact (lf (dc hv (ec hn).1)).1
def Mv (w:Wk) (i:Nat):Wk:=Wk.note ⟨{ w.c with queues:=(bM w.c.queues (w.pc i).proc).1,procs:=w.c.procs.eraseIdx i },w.ev++(bM w.c.queues (w.pc i).proc).2⟩ 5 (w.pc i).proc
theorem AU {w:Wk} {i:Nat} (h:CI w.c) (hi:i<w.c.procs.length):CI (Mv w i).c:=by
 obtain ⟨htp,hnp⟩:=m9 h.tv (w.pc i).proc;have hpc:=bZ hi;have hmem:∀{x:Pc},x∈w.c.procs.eraseIdx i->x∈w.c.procs:=fun hx=>List.mem_of_mem_eraseIdx hx;have hne:∀x∈w.c.procs.eraseIdx i,x.proc≠(w.pc i).proc:=by
  intro x hx;obtain ⟨j,hj,hji,e⟩:=List.mem_eraseIdx_iff_getElem.1 hx;rw [hpc,<-e];exact pA h hj hi hji
 show CI ({ w.c with queues:=(bM w.c.queues (w.pc i).proc).1,procs:=w.c.procs.eraseIdx i }:Cs);refine ⟨h.now,htp.v,?_,?_,fun r hr=>?_,fun x hx=>?_⟩
 ·have:=(List.eraseIdx_sublist w.c.procs i).length_le;have:=h.len;show (w.c.procs.eraseIdx i).length<=8;omega
 ·exact h.asc.sublist ((List.eraseIdx_sublist _ _).map _)
 ·have hrp:r≠(w.pc i).proc:=fun e=>hnp (e▸hr);rcases htp.sub r hr with e|e
  ·exact absurd e hrp
  ·obtain ⟨x,hx,hxr⟩:=List.mem_map.1 (h.cov r e);obtain ⟨j,hj,e2⟩:=List.mem_iff_getElem.1 hx;refine List.mem_map.2 ⟨x,List.mem_eraseIdx_iff_getElem.2 ⟨j,hj,fun e3=>?_,e2⟩,hxr⟩;subst e3;apply hrp
   rw [hpc,e2,hxr]
 ·exact (h.inv x (hmem hx)).tp htp (hne x hx)
theorem zb {w:Wk} {i:Nat} (h:CI w.c) (hi:i<w.c.procs.length):CI (ib w i).c/\(∀x∈(ib w i).c.procs,eP (ib w i).c.queues x=false)/\KW w.c.procs (ib w i).c.procs/\(ib w i).c.now=w.c.now/\(ib w i).c.procs.map (·.proc)=(w.c.procs.eraseIdx i).map (·.proc)/\KO (w.pc i).proc w.c.procs (ib w i).c.procs/\eZ (ib w i).c.queues=eZ w.c.queues:=by
 have htp:=(m9 h.tv (w.pc i).proc).1;have hpc:=bZ hi;have hmem:∀{x:Pc},x∈w.c.procs.eraseIdx i->x∈w.c.procs:=fun hx=>List.mem_of_mem_eraseIdx hx;have hci:CI (Mv w i).c:=AU h hi;have e:ib w i=bQ (Wk.note ⟨{ w.c with queues:=(bM w.c.queues (w.pc i).proc).1,procs:=w.c.procs.eraseIdx i },w.ev++(bM w.c.queues (w.pc i).proc).2⟩ 5 (w.pc i).proc):=rfl;rw [e];obtain ⟨k1,k2,k3⟩:=iv (w:=Wk.note ⟨{ w.c with queues:=(bM w.c.queues (w.pc i).proc).1,procs:=w.c.procs.eraseIdx i },w.ev++(bM w.c.queues (w.pc i).proc).2⟩ 5 (w.pc i).proc) hci;refine ⟨k1,k2,fun x hx hw=>hmem (k3.kw x hx hw),k3.now,k3.pr,KO.then (fun x hx hxp=>?_) (mZ (w:=Wk.note ⟨{ w.c with queues:=(bM w.c.queues (w.pc i).proc).1,procs:=w.c.procs.eraseIdx i },w.ev++(bM w.c.queues (w.pc i).proc).2⟩ 5 (w.pc i).proc) hci).gr,k3.nm.trans htp.nm⟩;obtain ⟨j,hj,e2⟩:=List.mem_iff_getElem.1 hx;exact ⟨x,List.mem_eraseIdx_iff_getElem.2 ⟨j,hj,fun e3=>by subst e3;rw [hpc,e2] at hxp;exact hxp rfl,e2⟩,GrP.refl x⟩
theorem ID {α:Type} {R:α->α->Prop} (irr:∀a,¬R a a) (asy:∀a b,R a b->¬R b a):∀{l l':List α},l.Pairwise R->l'.Pairwise R->(∀x,x∈l↔x∈l')->l=l'
 | [],[],_,_,_=>rfl
 | [],b :: m,_,_,h=>absurd ((h b).2 (by simp)) (by simp)
 | a :: l,[],_,_,h=>absurd ((h a).1 (by simp)) (by simp)
 | a :: l,b :: m,h1,h2,h=>by
  obtain ⟨k1,k2⟩:=List.pairwise_cons.1 h1;obtain ⟨k3,k4⟩:=List.pairwise_cons.1 h2;have hab:a=b:=by
   rcases List.mem_cons.1 ((h a).1 (by simp)) with e|e
   ·exact e
   ·rcases List.mem_cons.1 ((h b).2 (by simp)) with e2|e2
    ·exact e2.symm
    ·exact absurd (k1 b e2) (asy b a (k3 a e))
  subst hab;congr 1
  refine ID irr asy k2 k4 fun x=>⟨fun hx=>?_,fun hx=>?_⟩
  ·rcases List.mem_cons.1 ((h x).1 (by simp [hx])) with e|e
   ·subst e;exact absurd (k1 x hx) (irr x)
   ·exact e
  ·rcases List.mem_cons.1 ((h x).2 (by simp [hx])) with e|e
   ·subst e;exact absurd (k3 x hx) (irr x)
   ·exact e
def OA (a b:Tm):Prop:=fT a.name b.name=true
theorem Lf (a:Tm):¬OA a a:=fun h=>by unfold OA at h;rw [dh] at h;cases h
theorem Lh (a b:Tm) (h:OA a b):¬OA b a:=fun k=>by
 have:=dS h k;rw [dh] at this;cases this
theorem jR {g:Lg} {a:Tm}:a∈iJ g↔aw g.entries a.name=a.am/\a.am≠⟨0,0⟩:=by
 unfold iJ;rw [List.mem_filter,List.mem_map];constructor
 ·rintro ⟨⟨m,_,rfl⟩,h⟩;rw [Bool.not_eq_true',bg] at h;exact ⟨rfl,h⟩
 ·rintro ⟨h1,h2⟩;refine ⟨⟨a.name,?_,by rw [h1]⟩,by rw [Bool.not_eq_true',bg];exact h2⟩;refine Classical.byContradiction fun hn=>h2 ?_;rw [<-h1];exact gy a.name g.entries ⟨0,0⟩ fun e he e2=>hn (cP.2 ⟨e,he,e2⟩)
theorem F5 (g:Lg):(iJ g).Pairwise OA:=by
 unfold iJ;refine List.Pairwise.sublist List.filter_sublist ?_;rw [List.pairwise_map];exact gv g.entries
theorem rf {t:List Qu} {p:Pr} {a:Tm}:a∈cI t p↔(∃q∈t,q.res.name=a.name/\af q.holds p=a.am)/\a.am≠⟨0,0⟩:=by
 unfold cI;rw [List.mem_filter,List.mem_map,Bool.not_eq_true',bg];constructor
 ·rintro ⟨⟨q,hq,rfl⟩,h⟩;exact ⟨⟨q,hq,rfl,rfl⟩,h⟩
 ·rintro ⟨⟨q,hq,h1,h2⟩,h⟩;exact ⟨⟨q,hq,by rw [h1,h2]⟩,h⟩
theorem F6 {t:List Qu} (hv:eV t=true) (p:Pr):(cI t p).Pairwise OA:=by
 unfold cI;refine List.Pairwise.sublist List.filter_sublist ?_;rw [List.pairwise_map];have:=(pg (cm hv).2.1).1;unfold eZ at this;rw [List.pairwise_map] at this;exact this
theorem mu {p:Pr}:∀{t:List Qu},cY p t=[]↔∀q∈t,ah q p=none
 | []=>by simp [cY]
 | q :: t=>by
  unfold cY;cases hw:ah q p with
  | some a =>
   constructor
   ·intro h;cases h
   ·intro h;have:=h q (by simp);rw [hw] at this;cases this
  | none =>
   dsimp only;rw [mu];constructor
   ·intro h x hx;rcases List.mem_cons.1 hx with rfl|hx
    ·exact hw
    ·exact h x hx
   ·intro h x hx;exact h x (by simp [hx])
theorem Ej {t:List Qu} {x:Pc} (hv:eV t=true) (hf:∀n,g6 x n≠⟨0,0⟩->bh t n=true):(iJ x.led=cI t x.proc/\cY x.proc t=[])↔∀n,bh t n=true->FitR t n x:=by
 constructor
 ·rintro ⟨h1,h2⟩ n hn;obtain ⟨hm,hnm⟩:=ec hn;refine ⟨?_,mu.1 h2 _ hm⟩;by_cases h0:af (bG t n).holds x.proc=⟨0,0⟩
  ·rw [h0];refine Classical.byContradiction fun hne=>?_;have h3:(⟨n,g6 x n⟩:Tm)∈iJ x.led:=jR.2 ⟨rfl,fun e=>hne e.symm⟩;rw [h1,rf] at h3;obtain ⟨⟨q,hq,e1,e2⟩,_⟩:=h3;have h4:=(gI hv hq).2;rw [show q.res.name=n from e1] at h4;rw [h4,e2] at h0;exact hne h0.symm
  ·have h3:(⟨n,af (bG t n).holds x.proc⟩:Tm)∈cI t x.proc:=rf.2 ⟨⟨_,hm,hnm,rfl⟩,h0⟩;rw [<-h1,jR] at h3;exact h3.1.symm
 ·intro h;refine ⟨ID Lf Lh (F5 x.led) (F6 hv x.proc) fun a=>?_,mu.2 fun q hq=>?_⟩
  ·rw [jR,rf];constructor
   ·rintro ⟨h1,h2⟩;have hn:bh t a.name=true:=hf a.name (by show aw x.led.entries a.name≠_;rw [h1];exact h2);obtain ⟨hm,hnm⟩:=ec hn;exact ⟨⟨_,hm,hnm,by rw [(h a.name hn).h];exact h1⟩,h2⟩
   ·rintro ⟨⟨q,hq,e1,e2⟩,h2⟩;obtain ⟨hn,hqa⟩:=gI hv hq;rw [e1] at hn hqa;have:=(h a.name hn).h;rw [hqa,e2] at this;exact ⟨this.symm,h2⟩
  ·obtain ⟨hn,hqa⟩:=gI hv hq;have:=(h _ hn).w;rw [hqa] at this;exact this
theorem pE {α:Type} {o:Option α}:o.isSome=false↔o=none:=by cases o <;> simp
theorem sZ {t:List Qu} {q:Qu} {x:Pc} (hq:bG t q.res.name=q):(decide (af q.holds x.proc=aw x.led.entries q.res.name) && !(ah q x.proc).isSome)=true↔FitR t q.res.name x:=by
 rw [qBa,decide_eq_true_eq,Bool.not_eq_true',pE];constructor
 ·rintro ⟨h1,h2⟩;exact ⟨by rw [hq];exact h1,by rw [hq];exact h2⟩
 ·rintro ⟨h1,h2⟩;rw [hq] at h1 h2;exact ⟨h1,h2⟩
theorem s0 {q:Qu} {x:Pc}:∀{l:List Tm},(∀a∈l,a.name≠q.res.name)->d7 q x l=(decide (af q.holds x.proc=aw x.led.entries q.res.name) && !(ah q x.proc).isSome)
 | [],_=>rfl
 | a :: l,h=>by
  unfold d7;rw [cb.2 (h a (by simp)),Bool.not_false,Bool.true_or,qCt];exact s0 fun b hb=>h b (by simp [hb])
theorem ox {t:List Qu} {q:Qu} {x:Pc} (hq:bG t q.res.name=q):∀{l:List Tm},K9 l->(d7 q x l=true↔FitW t q.res.name x l)
 | [],_=>by
  unfold d7 FitW;exact sZ hq
 | a :: l,hn=>by
  obtain ⟨h1,h2⟩:=List.pairwise_cons.1 hn;have ih:=ox (x:=x) hq h2;unfold FitW at ih ⊢;rw [ef];unfold d7;cases hnm:aV a.name q.res.name with
  | false =>
   rw [Bool.not_false,Bool.true_or,qCt,qCf];exact ih
  | true =>
   have hname:=aZ.1 hnm;have hno:∀b∈l,b.name≠q.res.name:=fun b hb e=>h1 b hb (hname.trans e.symm);rw [Bool.not_true,Bool.false_or,qCt];dsimp only;unfold FitA jn;rw [hq];cases hc:bc q.res (aw x.led.entries q.res.name) a.am with
   | true =>
    rw [qCt,s0 hno,sZ hq];constructor
    ·intro h;exact .inl ⟨rfl,h⟩
    ·rintro (⟨_,h⟩|⟨h,_⟩)
     ·exact h
     ·cases h
   | false =>
    rw [qCf];cases hw:ah q x.proc with
    | none =>
     simp only [Option.isSome_none,Bool.not_false,qCt,decide_eq_true_eq];constructor
     ·intro h;exact .inr ⟨trivial,.inl ⟨h,trivial⟩⟩
     ·rintro (⟨h,_⟩|⟨_,⟨h,_⟩|⟨_,h,_⟩⟩)
      ·cases h
      ·exact h
      ·cases h
    | some b =>
     simp only [Option.isSome_some,Bool.not_true,qCf];cases hp:q.waits.any (fun y=>decide (y.proc=x.proc) && !decide (y.prio=x.req.prio)) with
     | true =>
      rw [qCt];constructor
      ·intro h;cases h
      ·rintro (⟨h,_⟩|⟨_,⟨_,h⟩|⟨_,_,h⟩⟩)
       ·cases h
       ·cases h
       ·rw [List.any_eq_true] at hp;obtain ⟨y,hy,h3⟩:=hp;simp only [qBa,decide_eq_true_eq,Bool.not_eq_true',decide_eq_false_iff_not] at h3;exact absurd (h y hy h3.1) h3.2
     | false =>
      rw [qCf,qBa,decide_eq_true_eq,decide_eq_true_eq];rw [List.any_eq_false] at hp;constructor
      ·rintro ⟨h3,h4⟩;refine .inr ⟨trivial,.inr ⟨h3,h4,fun y hy hyp=>?_⟩⟩;have:=hp y hy;simp only [qBa,decide_eq_true_eq,Bool.not_eq_true',decide_eq_false_iff_not,not_and,Decidable.not_not] at this;exact this hyp
      ·rintro (⟨h,_⟩|⟨_,⟨_,h⟩|⟨h3,h4,_⟩⟩)
       ·cases h
       ·cases h
       ·exact ⟨h3,h4⟩
def xR (c:Cs) (x:Pc):Prop:=x.waiting=true->(x.req.limit=0\/c.now<x.since+x.req.limit)/\eP c.queues x=false
theorem rg {c:Cs} {x:Pc} (hv:eV c.queues=true):sQ c x=true↔PInv c.queues c.now x/\xR c x:=by
 have hhf:(iJ x.led).all (fun a=>bh c.queues a.name && aH (bG c.queues a.name).res a.am)=true↔∀n,g6 x n≠⟨0,0⟩->bh c.queues n=true/\aH (bG c.queues n).res (g6 x n)=true:=by
  rw [List.all_eq_true];constructor
  ·intro h n hn;have:=h ⟨n,g6 x n⟩ (jR.2 ⟨rfl,hn⟩);rw [qBa] at this;exact this
  ·intro h a ha;obtain ⟨h1,h2⟩:=jR.1 ha;have:=h a.name (by show aw x.led.entries a.name≠_;rw [h1];exact h2);rw [show g6 x a.name=a.am from h1] at this;rw [qBa];exact this
 unfold sQ;cases hw:x.waiting with
 | false =>
  simp only [Bool.not_false,qCt,qBa,decide_eq_true_eq,hhf,fZ,KY];constructor
  ·rintro ⟨⟨⟨⟨⟨⟨⟨h1,h2⟩,h3⟩,h4⟩,h5⟩,h6⟩,h7⟩,⟨⟨h8,h9⟩,h10⟩,h11⟩;refine ⟨⟨⟨h1,⟨h2,h3⟩,h4,⟨h5,h6⟩,h7⟩,fun _=>⟨h8,h9,(Ej hv fun n hn=>(h7 n hn).1).1 ⟨h10,h11⟩⟩,fun h=>?_⟩,fun h=>?_⟩
   ·rw [hw] at h;cases h
   ·rw [hw] at h;cases h
  ·rintro ⟨⟨⟨h1,h2,h4,h5,h7⟩,h8,_⟩,_⟩;obtain ⟨k1,k2,k3⟩:=h8 hw;obtain ⟨k4,k5⟩:=(Ej hv fun n hn=>(h7 n hn).1).2 k3;exact ⟨⟨⟨⟨⟨⟨⟨h1,h2.1⟩,h2.2⟩,h4⟩,h5.1⟩,h5.2⟩,h7⟩,⟨⟨k1,k2⟩,k4⟩,k5⟩
 | true =>
  have hfw:c.queues.all (fun q=>d7 q x (cR x.req.expr))=true↔∀n,bh c.queues n=true->FitW c.queues n x (cR x.req.expr):=by
   rw [List.all_eq_true];constructor
   ·intro h n hn;obtain ⟨hm,hnm⟩:=ec hn;have h1:=(ox (t:=c.queues) (q:=bG c.queues n) (x:=x) (by rw [hnm]) (rc x.req.expr)).1 (h _ hm);rw [hnm] at h1;exact h1
   ·intro h q hq;obtain ⟨hn,hqa⟩:=gI hv hq;exact (ox hqa (rc x.req.expr)).2 (h _ hn)
  have hsat:eP c.queues x=fu x.req.expr (bN c.queues x.proc x.req.expr):=by unfold eP;rw [hw];rfl
  simp only [Bool.not_true,qCf,qBa,Bool.or_eq_true,decide_eq_true_eq,hhf,fZ,hfw,Bool.not_eq_true',<-hsat];constructor
  ·rintro ⟨⟨⟨⟨⟨⟨⟨h1,h2⟩,h3⟩,h4⟩,h5⟩,h6⟩,h7⟩,⟨⟨⟨⟨⟨h8,h9⟩,h10⟩,h11⟩,h12⟩,h13⟩,h14⟩;refine ⟨⟨⟨h1,⟨h2,h3⟩,h4,⟨h5,h6⟩,h7⟩,fun h=>?_,fun _=>⟨⟨h8,h9,h10,h11⟩,h14⟩⟩,fun _=>⟨h12,h13⟩⟩;rw [hw] at h;cases h
  ·rintro ⟨⟨⟨h1,h2,h4,h5,h7⟩,_,h8⟩,h9⟩;obtain ⟨k1,k2⟩:=h8 hw;obtain ⟨k3,k4⟩:=h9 hw;exact ⟨⟨⟨⟨⟨⟨⟨h1,h2.1⟩,h2.2⟩,h4⟩,h5.1⟩,h5.2⟩,h7⟩,⟨⟨⟨⟨⟨k1.rq,k1.rs⟩,k1.sn.1⟩,k1.sn.2⟩,k3⟩,k4⟩,k2⟩
theorem AV (c:Cs):∀(l:List Pc) (o:Option Pr),AA c o l=true↔(∀x∈l,sQ c x=true)/\(l.map (·.proc)).Pairwise fS/\∀p,o=some p->∀x∈l,fS p x.proc
 | [],o=>by simp [AA]
 | x :: l,o=>by
  unfold AA;simp only [qBa,AV c l,DV];constructor
  ·rintro ⟨⟨h1,h2⟩,h3,h4,h5⟩;refine ⟨?_,?_,?_⟩
   ·intro y hy;rcases List.mem_cons.1 hy with rfl|hy
    ·exact h1
    ·exact h3 y hy
   ·rw [List.map_cons];refine List.pairwise_cons.2 ⟨?_,h4⟩;intro p hp;obtain ⟨y,hy,rfl⟩:=List.mem_map.1 hp;exact h5 _ rfl y hy
   ·intro p hp y hy;rcases List.mem_cons.1 hy with rfl|hy
    ·exact h2 p hp
    ·exact cq (h2 p hp) (h5 _ rfl y hy)
  ·rintro ⟨h1,h2,h3⟩;rw [List.map_cons] at h2;obtain ⟨h4,h5⟩:=List.pairwise_cons.1 h2;refine ⟨⟨h1 x (by simp),fun p hp=>h3 p hp x (by simp)⟩,fun y hy=>h1 y (by simp [hy]),h5,?_⟩;intro p hp y hy;injection hp with hp;subst hp;exact h4 _ (List.mem_map.2 ⟨y,hy,rfl⟩)
theorem vQ {p:Pr}:∀{l:List Pc} {k:Nat},d8 p k l<0↔∀x∈l,x.proc≠p
 | [],k=>by simp [d8]
 | x :: l,k=>by
  unfold d8;by_cases hx:x.proc=p
  ·rw [qDt hx,qCt];constructor
   ·intro h;omega
   ·intro h;exact absurd hx (h x (by simp))
  ·rw [qDf hx,qCf,vQ];constructor
   ·intro h y hy;rcases List.mem_cons.1 hy with rfl|hy
    ·exact hx
    ·exact h y hy
   ·intro h y hy;exact h y (by simp [hy])
theorem iy {p:Pr}:∀{l:List Pc} {k:Nat},0<=d8 p k l->∃i,∃h:i<l.length,d8 p k l=((k+i:Nat):Int)/\l[i].proc=p
 | [],k,h=>by simp [d8] at h
 | x :: l,k,h=>by
  have e:d8 p k (x :: l)=bif decide (x.proc=p) then (k:Int) else d8 p (k+1) l:=rfl;rw [e] at h ⊢;by_cases hx:x.proc=p
  ·exact ⟨0,by simp,by rw [qDt hx];simp,hx⟩
  ·rw [qDf hx,qCf] at h ⊢;obtain ⟨i,hi,h1,h2⟩:=iy h;exact RO
theorem AX {p:Pr} {l:List Pc} {k:Nat}:0<=d8 p k l↔p∈l.map (·.proc):=by
 constructor
 ·intro h;obtain ⟨i,hi,_,e⟩:=iy h;exact List.mem_map.2 ⟨_,List.getElem_mem hi,e⟩
 ·intro h;obtain ⟨x,hx,e⟩:=List.mem_map.1 h;refine Classical.byContradiction fun hn=>?_;exact vQ.1 (show d8 p k l<0 by omega) x hx e
theorem cf {c:Cs}:dA c=true↔CI c/\∀x∈c.procs,xR c x:=by
 unfold dA;simp only [qBa,decide_eq_true_eq,List.all_eq_true,AV,AX];constructor
 ·rintro ⟨⟨⟨⟨⟨h1,h2⟩,h3⟩,h4⟩,h5⟩,h6,h7,_⟩;exact ⟨⟨⟨h1,h2⟩,h3,h4,h7,h5,fun x hx=>((rg h3).1 (h6 x hx)).1⟩,fun x hx=>((rg h3).1 (h6 x hx)).2⟩
 ·rintro ⟨⟨h1,h3,h4,h7,h5,h6⟩,h8⟩;exact ⟨⟨⟨⟨⟨h1.1,h1.2⟩,h3⟩,h4⟩,h5⟩,fun x hx=>(rg h3).2 ⟨h6 x hx,h8 x hx⟩,h7,fun p hp=>by cases hp⟩
theorem na (x:Pc):∀l:List Pc,(pn x l).Perm (x :: l)
 | []=>List.Perm.refl _
 | y :: l=>by
  show (bif decide (0<bH y.proc x.proc) then x :: y :: l else y :: pn x l).Perm _;cases decide (0<bH y.proc x.proc) with
  | true=>exact List.Perm.refl _
  | false=>exact ((na x l).cons y).trans (List.Perm.swap x y l)
theorem AY {x:Pc}:∀{l:List Pc},(l.map (·.proc)).Pairwise fS->(∀y∈l,y.proc≠x.proc)->((pn x l).map (·.proc)).Pairwise fS
 | [],_,_=>by simp [pn]
 | y :: l,h,hn=>by
  rw [List.map_cons] at h;obtain ⟨h1,h2⟩:=List.pairwise_cons.1 h;have hyx:=hn y (by simp);show ((bif decide (0<bH y.proc x.proc) then x :: y :: l else y :: pn x l).map (·.proc)).Pairwise fS;by_cases hc:0<bH y.proc x.proc
  ·rw [qDt hc,qCt,List.map_cons,List.map_cons];have hlt:fS x.proc y.proc:=by
    rcases ig x.proc y.proc with h3|h3|h3
    ·exact h3
    ·exact absurd h3.symm hyx
    ·have:=(eX _ _).2 h3;omega
   refine List.pairwise_cons.2 ⟨?_,List.pairwise_cons.2 ⟨h1,h2⟩⟩;intro z hz;rcases List.mem_cons.1 hz with rfl|hz
   ·exact hlt
   ·exact cq hlt (h1 z hz)
  ·rw [qDf hc,qCf,List.map_cons];have hlt:fS y.proc x.proc:=by
    rcases dg y.proc x.proc with ⟨h5,_⟩|⟨h5,_⟩|⟨_,h6⟩
    ·exact h5
    ·exact absurd h5 hyx
    ·omega
   refine List.pairwise_cons.2 ⟨?_,AY h2 fun z hz=>hn z (by simp [hz])⟩;intro z hz;obtain ⟨u,hu,rfl⟩:=List.mem_map.1 hz;rcases List.mem_cons.1 ((na x l).mem_iff.1 hu) with rfl|hu
   ·exact hlt
   ·exact h1 _ (List.mem_map.2 ⟨u,hu,rfl⟩)
theorem Ek {t:List Qu} (hv:eV t=true) {p:Pr} (hp:p ∉ aD t) {n:ByteArray} (hn:bh t n=true):af (bG t n).holds p=⟨0,0⟩/\ah (bG t n) p=none:=by
 obtain ⟨hm,_⟩:=ec hn;have h1:dY (bG t n) p=false:=by
  cases hh:dY (bG t n) p with
  | false=>rfl
  | true =>
   refine absurd ?_ hp;unfold aD;rw [bf,et];exact ⟨_,hm,(dH (aG (dc hv hm)) p).2 hh⟩
 unfold dY at h1;rw [Bool.or_eq_false_iff,pE,Bool.not_eq_false'] at h1;exact ⟨of_decide_eq_true h1.2,h1.1⟩
theorem Li:Ld Lg.zero:=⟨by simp [Lg.zero],fun k hk=>absurd hk (by simp [Lg.zero]),by simp [Lg.zero,bt,dy],fun x hx=>absurd hx (by simp [Lg.zero]),by simp [Lg.zero],by simp [Lg.zero]⟩
theorem Em {w:Wk} {p:Pr} {cost:Int} (h:CI w.c) (he:(nK w p cost).2=0) :
  CI (nK w p cost).1.c/\(nK w p cost).1.c.queues=w.c.queues/\(nK w p cost).1.c.now=w.c.now/\(nK w p cost).1.c.procs=pn { Kc with proc:=p,cost:=cost } w.c.procs:=by
 unfold nK at he ⊢;cases hA:gm p && decide (1<=cost) && decide (cost<=1000) with
 | false=>rw [hA] at he;simp at he
 | true =>
  rw [hA] at he;simp only [Bool.not_true,qCf] at he ⊢;simp only [qBa,decide_eq_true_eq] at hA;by_cases hI:0<=d8 p 0 w.c.procs
  ·rw [qDt hI] at he;simp at he
  ·rw [qDf hI] at he ⊢;simp only [qCf] at he ⊢;by_cases hL:w.c.procs.length=8
   ·rw [qDt hL] at he;simp at he
   ·rw [qDf hL];simp only [qCf];have hno:=(vQ (k:=0)).1 (show d8 p 0 w.c.procs<0 by omega);have hnp:p ∉ aD w.c.queues:=fun hm=>by
     obtain ⟨x,hx,e⟩:=List.mem_map.1 (h.cov p hm);exact hno x hx e
    have hperm:=na { Kc with proc:=p,cost:=cost } w.c.procs;refine ⟨⟨h.now,h.tv,?_,AY h.asc fun y hy=>hno y hy,fun r hr=>?_,fun x hx=>?_⟩,by trivial,by trivial,by trivial⟩
    ·have e1:=hperm.length_eq;rw [List.length_cons] at e1;have e2:=h.len;show (pn { Kc with proc:=p,cost:=cost } w.c.procs).length<=8;rw [e1];omega
    ·obtain ⟨x,hx,e⟩:=List.mem_map.1 (h.cov r hr);exact List.mem_map.2 ⟨x,hperm.mem_iff.2 (by simp [hx]),e⟩
    ·rcases List.mem_cons.1 (hperm.mem_iff.1 hx) with rfl|hx
     ·refine ⟨⟨hA.1.1,⟨hA.1.2,hA.2⟩,Li,by simp [Kc],fun n hn=>absurd rfl hn⟩,fun _=>⟨rfl,rfl,fun n hn=>?_⟩,fun hw=>by cases hw⟩;obtain ⟨k1,k2⟩:=Ek h.tv hnp hn;exact ⟨k1,k2⟩
     ·exact h.inv x hx
def IE (now:Int) (x:Pc):Prop:=x.waiting=true/\x.req.limit≠0/\x.since+x.req.limit<=now
theorem oy (now:Int):∀(l:List Pc) (k:Nat) (b:Int×Int),
  ((jK now k l b).1<0->b.1<0/\∀x∈l,¬IE now x)/\(0<=(jK now k l b).1->jK now k l b=b\/∃j,∃h:j<l.length,(jK now k l b).1=((k+j:Nat):Int)/\IE now l[j])
 | [],k,b=>by
  constructor
  ·intro h;exact ⟨h,fun x hx=>absurd hx (by simp)⟩
  ·intro _;exact .inl rfl
 | x :: l,k,b=>by
  have e:jK now k (x :: l) b=jK now (k+1) l (bif x.waiting && !decide (x.req.limit=0) && decide (x.since+x.req.limit<=now) && (decide (b.1<0) || decide (x.since+x.req.limit<b.2)) then ((k:Int),x.since+x.req.limit) else b):=rfl;rw [e];cases hc:x.waiting && !decide (x.req.limit=0) && decide (x.since+x.req.limit<=now) && (decide (b.1<0) || decide (x.since+x.req.limit<b.2)) with
  | true =>
   rw [qCt];obtain ⟨h1,h2⟩:=oy now l (k+1) ((k:Int),x.since+x.req.limit);simp only [qBa,decide_eq_true_eq,Bool.not_eq_true',decide_eq_false_iff_not] at hc;constructor
   ·intro h;have:=(h1 h).1;simp only at this;omega
   ·intro h;rcases h2 h with h3|⟨j,hj,h3,h4⟩
    ·exact .inr ⟨0,by simp,by rw [h3];simp,⟨hc.1.1.1,hc.1.1.2,hc.1.2⟩⟩
    ·exact .inr ⟨j+1,by simpa using hj,by rw [h3];omega,by simpa using h4⟩
  | false =>
   rw [qCf];obtain ⟨h1,h2⟩:=oy now l (k+1) b;constructor
   ·intro h;obtain ⟨h3,h4⟩:=h1 h;refine ⟨h3,fun y hy=>?_⟩;rcases List.mem_cons.1 hy with rfl|hy
    ·rintro ⟨k1,k2,k3⟩;rw [k1,qDf k2,qDt k3,qDt h3] at hc;cases hc
    ·exact h4 y hy
   ·intro h;rcases h2 h with h3|⟨j,hj,h3,h4⟩
    ·exact .inl h3
    ·exact .inr ⟨j+1,by simpa using hj,by rw [h3];omega,by simpa using h4⟩
theorem nc (w:Wk):(d9 w<0->∀x∈w.c.procs,¬IE w.c.now x)/\(0<=d9 w->∃h:(d9 w).toNat<w.c.procs.length,IE w.c.now w.c.procs[(d9 w).toNat]):=by
 obtain ⟨h1,h2⟩:=oy w.c.now w.c.procs 0 (-1,0);constructor
 ·intro h;exact (h1 h).2
 ·intro h;have h':0<=(jK w.c.now 0 w.c.procs (-1,0)).1:=h;rcases h2 h with h3|⟨j,hj,h3,h4⟩
  ·rw [h3] at h';simp at h'
  ·have e:(d9 w).toNat=j:=by unfold d9;rw [h3];omega
   exact ⟨by rw [e];exact hj,by simp only [e];exact h4⟩
theorem IF {c:Cs} {x:Pc} (h1:¬IE c.now x) (h2:eP c.queues x=false):xR c x:=fun hw=>by
 refine ⟨?_,h2⟩;by_cases h0:x.req.limit=0
 ·exact .inl h0
 ·right
  refine Classical.byContradiction fun hn=>h1 ⟨hw,h0,by omega⟩
theorem AZ:∀(n:Nat) (w:Wk),CI w.c->(∀x∈w.c.procs,eP w.c.queues x=false)->cy w.c.procs<=n->CI (gR n w).c/\(∀x∈(gR n w).c.procs,xR (gR n w).c x)/\(gR n w).c.now=w.c.now/\KW w.c.procs (gR n w).c.procs/\(gR n w).c.procs.map (·.proc)=w.c.procs.map (·.proc)
 | 0,w,h,hs,hn=>by
  refine ⟨h,fun x hx hw=>?_,rfl,KW.refl _,rfl⟩;have hx':x∈w.c.procs:=hx;obtain ⟨i,hi,e⟩:=List.mem_iff_getElem.1 hx';have:0<cy w.c.procs:=mY hi (by rw [e];exact hw);have hn':cy w.c.procs<=0:=hn;omega
 | n+1,w,h,hs,hn=>by
  obtain ⟨s1,s2⟩:=nc w;unfold gR;by_cases he:d9 w<0
  ·rw [qDt he];exact ⟨h,fun x hx=>IF (s1 he x hx) (hs x hx),rfl,KW.refl _,rfl⟩
  ·rw [qDf he,qCf];obtain ⟨hi,hl1,hl2,hl3⟩:=s2 (by omega);generalize (d9 w).toNat=i at *
   have hc0:CI (w.note 4 (w.pc i).proc).c:=h;have hw0:((w.note 4 (w.pc i).proc).pc i).waiting=true:=by rw [bZ (w:=w.note 4 (w.pc i).proc) hi];exact hl1
   obtain ⟨k1,k2,k3,k4,_⟩:=eU hc0 hi hw0;have hi2:i<(aC (w.note 4 (w.pc i).proc) i).c.procs.length:=by rw [k3.len];exact hi
   have hrun:((aC (w.note 4 (w.pc i).proc) i).pc i).waiting=false:=by rw [bZ hi2];simp [k4]
   obtain ⟨n1,n2,n3⟩:=jc k1 hi2 hrun;obtain ⟨q1,q2,q3,q4,q5,q6,_⟩:=jQ n1;have k2':cy (aC (w.note 4 (w.pc i).proc) i).c.procs+1=cy w.c.procs:=k2;obtain ⟨r1,r2,r3,r4,r5⟩:=AZ n (bQ (bi (aC (w.note 4 (w.pc i).proc) i) i)) q1 q2 (by omega);refine ⟨r1,r2,?_,?_,?_⟩
   ·exact r3.trans (q4.trans (n2.now.trans k3.now))
   ·exact (k3.kw.trans n2.kw).trans (q6.trans r4)
   ·exact r5.trans (q3.trans (n2.pr.trans k3.pr))
theorem CI.later {c:Cs} (h:CI c) {n:Int} (h0:0<=n) (hm:c.now+n<=1073741824):CI { c with now:=c.now+n } :=
 ⟨by have:=h.now;show 0<=c.now+n/\c.now+n<=1073741824;omega,h.tv,h.len,h.asc,h.cov,fun x hx=>by
  have k:=h.inv x hx;exact ⟨k.stat,k.run,fun hw=>by
   obtain ⟨k1,k2⟩:=k.wat hw;exact ⟨⟨k1.rq,k1.rs,by have:=k1.sn;show 0<=x.since/\x.since<=c.now+n;omega⟩,k2⟩⟩⟩
theorem rh {c:Cs} {x:Pc} (h:xR c x):eP c.queues x=false:=by
 cases hw:x.waiting with
 | true=>exact (h hw).2
 | false=>unfold eP;rw [hw];rfl
theorem Lj {w:Wk} {n:Int} (h:CI w.c) (hs:∀x∈w.c.procs,eP w.c.queues x=false) (he:(jL w n).2=0):CI (jL w n).1.c/\(∀x∈(jL w n).1.c.procs,xR (jL w n).1.c x)/\(jL w n).1.c.now=w.c.now+n/\KW w.c.procs (jL w n).1.c.procs/\(jL w n).1.c.procs.map (·.proc)=w.c.procs.map (·.proc):=by
 unfold jL at he ⊢;cases hA:decide (0<=n) && decide (n<=1000) with
 | false=>rw [hA] at he;simp at he
 | true =>
  rw [hA] at he;simp only [Bool.not_true,qCf] at he ⊢;simp only [qBa,decide_eq_true_eq] at hA;by_cases hm:1073741824-n<w.c.now
  ·rw [qDt hm] at he;simp at he
  ·rw [qDf hm];simp only [qCf];exact AZ _ ⟨{ w.c with now:=w.c.now+n },w.ev⟩ (h.later hA.1 (by omega)) hs (pB _)
theorem cF {α:Type} {b:Bool} {x y:α} (h:b=false):(bif b then x else y)=y:=by rw [h];rfl
theorem cT {α:Type} {b:Bool} {x y:α} (h:b=true):(bif b then x else y)=x:=by rw [h];rfl
theorem O8 {c:Cs} {k:Cm} (h:dA c=true) (he:(wD ⟨c,[]⟩ k).2=0):dA (wD ⟨c,[]⟩ k).1.c=true:=by
 obtain ⟨hci,hun⟩:=cf.1 h;have fin:∀w:Wk,CI w.c->(∀x∈w.c.procs,eP w.c.queues x=false)->KW c.procs w.c.procs->w.c.now=c.now->dA w.c=true:=by
  intro w h1 h2 h3 h4;refine cf.2 ⟨h1,fun x hx hw=>⟨?_,h2 x hx⟩⟩;have h5:=h3 x hx hw;rw [h4];exact (hun x h5 hw).1
 unfold wD at he ⊢;cases hA:decide (1<=k.kind) && decide (k.kind<=9) with
 | false=>rw [hA] at he;simp at he
 | true =>
  rw [hA] at he;simp only [Bool.not_true,qCf] at he ⊢;by_cases h1:k.kind=1
  ·rw [qDt h1] at he ⊢;simp only [qCt] at he ⊢;obtain ⟨k1,k2,k3,k4⟩:=Em hci he;have hperm:=na { Kc with proc:=k.proc,cost:=k.n } c.procs;refine cf.2 ⟨k1,fun x hx hw=>?_⟩;rw [k4] at hx;rcases List.mem_cons.1 (hperm.mem_iff.1 hx) with rfl|hx
   ·cases hw
   ·have:=hun x hx hw;rw [k2,k3];exact this
  ·rw [qDf h1] at he ⊢;simp only [qCf] at he ⊢;by_cases h9:k.kind=9
   ·rw [qDt h9] at he ⊢;simp only [qCt] at he ⊢;obtain ⟨k1,k2,_⟩:=Lj hci (fun x hx=>rh (hun x hx)) he;exact cf.2 ⟨k1,k2⟩
   ·rw [qDf h9] at he ⊢;simp only [qCf] at he ⊢;by_cases hI:d8 k.proc 0 c.procs<0
    ·rw [qDt hI] at he;simp at he
    ·rw [qDf hI] at he ⊢;simp only [qCf] at he ⊢;obtain ⟨i,hi,e,_⟩:=iy (p:=k.proc) (l:=c.procs) (k:=0) (by omega);have ei:(d8 k.proc 0 c.procs).toNat=i:=by rw [e];omega
     rw [ei] at he ⊢;by_cases h2:k.kind=2
     ·rw [qDt h2] at he ⊢;simp only [qCt] at he ⊢;have hrq:qW k.req=true:=by
       cases hq:qW k.req with
       | true=>rfl
       | false =>
        exfalso;unfold cQ at he;rw [hq] at he;cases hw:(Wk.pc ⟨c,[]⟩ i).waiting <;> rw [hw] at he <;> simp at he
      obtain ⟨k1,k2,k3,_,k5,_⟩:=vO hci hi he;refine cf.2 ⟨k1,fun x hx hw=>⟨?_,k2 x hx⟩⟩;rw [k3];rcases k5 x hx hw with h5|h5
      ·exact (hun x h5 hw).1
      ·rw [h5];unfold qW at hrq;simp only [qBa,decide_eq_true_eq] at hrq;show k.req.limit=0\/c.now<c.now+k.req.limit;omega
     ·rw [qDf h2] at he ⊢;simp only [qCf] at he ⊢;by_cases h3:k.kind=3
      ·rw [qDt h3] at he ⊢;simp only [qCt] at he ⊢;cases hw:(Wk.pc ⟨c,[]⟩ i).waiting with
       | false=>rw [hw] at he;simp at he
       | true =>
        simp only [Bool.not_true,qCf];obtain ⟨k1,_,k3,k4,_⟩:=eU hci hi hw;have hi2:i<(aC ⟨c,[]⟩ i).c.procs.length:=by rw [k3.len];exact hi
        obtain ⟨n1,n2,_⟩:=jc k1 hi2 (by rw [bZ hi2];simp [k4]);obtain ⟨q1,q2,q3⟩:=iv n1;have hk:=(k3.trans n2).trans q3;exact fin _ q1 q2 hk.kw hk.now
      ·rw [qDf h3] at he ⊢;simp only [qCf] at he ⊢;by_cases h4:k.kind=4
       ·rw [qDt h4] at he ⊢;simp only [qCt] at he ⊢;obtain ⟨q1,q2,hk,_⟩:=vP hci hi he;exact fin _ q1 q2 hk.kw hk.now
       ·rw [qDf h4] at he ⊢;simp only [qCf] at he ⊢;by_cases h5:k.kind=5
        ·rw [qDt h5] at he ⊢;simp only [qCt] at he ⊢;rcases Bool.eq_false_or_eq_true (Wk.pc ⟨c,[]⟩ i).waiting with hw|hw
         ·rw [cT hw] at he;simp at he
         ·rw [cF hw] at he ⊢;by_cases hs:(iH (Wk.pc ⟨c,[]⟩ i).led k.n).2=0
          ·rw [qDt hs];simp only [Bool.not_true,qCf];obtain ⟨hld,hse,hld2⟩:=KT hs;rw [hse];have hpc:=bZ (w:=⟨c,[]⟩) hi;have hinv:=hci.inv _ (List.getElem_mem hi);rw [<-hpc] at hinv;obtain ⟨hrq,hsn,hrun⟩:=hinv.run hw;have hpv:PInv c.queues c.now { Wk.pc ⟨c,[]⟩ i with led:=⟨(Wk.pc ⟨c,[]⟩ i).led.entries,(Wk.pc ⟨c,[]⟩ i).led.saves++[⟨k.n,(Wk.pc ⟨c,[]⟩ i).led.entries.length⟩]⟩ } :=
            ⟨⟨hinv.stat.vp,hinv.stat.cost,hld2,hinv.stat.gen,hinv.stat.hf⟩,fun _=>⟨hrq,hsn,fun n hn=>(hrun n hn).led rfl rfl⟩,fun hf=>by
             have:(Wk.pc ⟨c,[]⟩ i).waiting=true:=hf;rw [hw] at this;cases this⟩
           have hci2:=hci.upd (c':=(Wk.setP ⟨c,[]⟩ i { Wk.pc ⟨c,[]⟩ i with led:=⟨(Wk.pc ⟨c,[]⟩ i).led.entries,(Wk.pc ⟨c,[]⟩ i).led.saves++[⟨k.n,(Wk.pc ⟨c,[]⟩ i).led.entries.length⟩]⟩ }).c) hi rfl rfl (by rw [hpc]) (TP.refl hci.tv _) hpv;have hi2:i<(Wk.setP ⟨c,[]⟩ i { Wk.pc ⟨c,[]⟩ i with led:=⟨(Wk.pc ⟨c,[]⟩ i).led.entries,(Wk.pc ⟨c,[]⟩ i).led.saves++[⟨k.n,(Wk.pc ⟨c,[]⟩ i).led.entries.length⟩]⟩ }).c.procs.length:=by
            show i<(c.procs.set i _).length;simpa using hi
           obtain ⟨n1,n2,_⟩:=jc hci2 hi2 (by rw [pz hi];exact hw);have hkw:KW c.procs (Wk.setP ⟨c,[]⟩ i { Wk.pc ⟨c,[]⟩ i with led:=⟨(Wk.pc ⟨c,[]⟩ i).led.entries,(Wk.pc ⟨c,[]⟩ i).led.saves++[⟨k.n,(Wk.pc ⟨c,[]⟩ i).led.entries.length⟩]⟩ }).c.procs:=KW.set hw;refine fin _ n1 (fun x hx=>?_) (hkw.trans n2.kw) n2.now;cases hxw:x.waiting with
           | false=>unfold eP;rw [hxw];rfl
           | true=>exact rh (hun x (hkw.trans n2.kw x hx hxw))
          ·rw [qDf hs] at he;simp only [Bool.not_false,qCt] at he;exact absurd he hs
        ·rw [qDf h5] at he ⊢;simp only [qCf] at he ⊢;by_cases h6:k.kind=6
         ·rw [qDt h6] at he ⊢;simp only [qCt] at he ⊢;obtain ⟨q1,q2,hk,_⟩:=mt hci hi he;exact fin _ q1 q2 hk.kw hk.now
         ·rw [qDf h6] at he ⊢;simp only [qCf] at he ⊢;cases h8:decide (k.kind=8) && (Wk.pc ⟨c,[]⟩ i).waiting with
          | true=>rw [h8] at he;simp at he
          | false =>
           simp only [qCf];obtain ⟨q1,q2,q3,q4,_⟩:=zb (w:=⟨c,[]⟩) hci hi;exact fin _ q1 q2 q3 q4
theorem zc {c:Cs} {k:Cm} (he:(nL c k).2.2=0):dA c=true/\dA (nL c k).1=true:=by
 unfold nL at he ⊢;cases hc:dA c with
 | false=>rw [hc] at he;simp at he
 | true =>
  rw [hc] at he;simp only [Bool.not_true,qCf] at he ⊢;by_cases h0:(wD ⟨c,[]⟩ k).2=0
  ·rw [qDt h0];exact ⟨trivial,O8 hc h0⟩
  ·rw [qDf h0] at he;simp only [Bool.not_false,qCt] at he;exact absurd he h0
def lE (n m:Int):Int:=bif decide (m<1) then 0 else bif decide (n.tmod m<0) then n.tmod m+m else n.tmod m
theorem tW {n m:Int} (h:1<=m):0<=lE n m/\lE n m<m:=by
 unfold lE;rw [qDf (by omega),qCf];by_cases h2:n.tmod m<0
 ·rw [qDt h2,qCt];have:=Int.lt_tmod_of_pos n (show 0<m by omega);omega
 ·rw [qDf h2,qCf];have:=Int.tmod_lt_of_pos n (show 0<m by omega);omega
structure Tp where
 l:List Int
 at_:Nat
def Tp.v (t:Tp) (m:Int):Int:=bif decide (t.l.length<=t.at_) then 0 else lE (t.l.getD t.at_ 0) m
def Tp.s (t:Tp):Tp:=bif decide (t.l.length<=t.at_) then t else ⟨t.l,t.at_+1⟩
theorem Tp.v_in (t:Tp) {m:Int} (h:1<=m):0<=t.v m/\t.v m<m:=by
 unfold Tp.v;cases decide (t.l.length<=t.at_) with
 | true=>rw [qCt];omega
 | false=>exact tW h
theorem Tp.s_l (t:Tp):t.s.l=t.l:=by unfold Tp.s;cases decide (t.l.length<=t.at_) <;> rfl
theorem Tp.s_at (t:Tp) (h:t.at_<=t.l.length):t.s.at_<=t.s.l.length:=by
 rw [Tp.s_l];unfold Tp.s;by_cases h2:t.l.length<=t.at_
 ·rw [qDt h2];exact h
 ·rw [qDf h2];show t.at_+1<=_;omega
theorem Tp.s_le (t:Tp):t.at_<=t.s.at_:=by
 unfold Tp.s;cases decide (t.l.length<=t.at_) with
 | true=>exact Nat.le_refl _
 | false=>exact Nat.le_succ _
theorem Tp.s_lt (t:Tp) (h:t.at_<t.l.length):t.s.at_=t.at_+1:=by
 unfold Tp.s;rw [qDf (by omega)];rfl
def iR (n:Int):Pr:=⟨(lE n 8).tmod 4,1,1+(lE n 8).tdiv 4⟩
def nA:ByteArray:=⟨#[97]⟩
def nB:ByteArray:=⟨#[98]⟩
def nC:ByteArray:=⟨#[99]⟩
def nD:ByteArray:=⟨#[100]⟩
def nP:ByteArray:=⟨#[112]⟩
def nQ:ByteArray:=⟨#[113]⟩
def toZ (t:Tp):List Rs×Tp :=
 ([⟨nA,1,1,t.v 4⟩,⟨nB,1,1,t.s.v 4⟩,⟨nC,1,1,t.s.s.v 4⟩,⟨nD,1,1,t.s.s.s.v 4⟩,⟨nP,2,1+t.s.s.s.s.v 8,t.s.s.s.s.s.v 4⟩,⟨nQ,2,1+t.s.s.s.s.s.s.v 3,t.s.s.s.s.s.s.s.v 4⟩],t.s.s.s.s.s.s.s.s)
def Eo (n:Int):Int:=[5,5,3,4,2,1,3,5].getD (lE n 8).toNat 0
def Mw (r:Rs) (n:Int):Am:=bif decide (r.kind=1) then ⟨Eo n,0⟩ else ⟨0,1+lE n r.units⟩
def xS (first:Int):Nat->List Rs->List Tm
 | _,[]=>[]
 | i,r :: l=>⟨r.name,Mw r (first.fdiv (2 ^ (3*i)))⟩ :: xS first (i+1) l
def Ep (L:List Tm) (n:Int):Tm:=L.getD n.toNat ⟨⟨#[]⟩,Am.zero⟩
def lw (f:Tp->Ex×Tp):Nat->Tp->List Ex×Tp
 | 0,t=>([],t)
 | n+1,t=>((f t).1 :: (lw f n (f t).2).1,(lw f n (f t).2).2)
def fL (L:List Tm):Nat->Tp->Ex×Tp
 | 0,t=>(.mk 0 (Ep L (t.v L.length)) [],t.s)
 | d+1,t=>bif decide (t.v 4=0) then (.mk 0 (Ep L (t.s.v L.length)) [],t.s.s) else
  (.mk (1+t.s.s.v (1+t.s.v 3)) ⟨⟨#[]⟩,Am.zero⟩ (lw (fL L d) (1+t.s.v 3).toNat t.s.s.s).1,(lw (fL L d) (1+t.s.v 3).toNat t.s.s.s).2)
def pF (t:Tp) (l:List Rs):Ex×Tp:=fL (xS (t.v 1048576) 0 l) 2 t.s
def CY (t:Tp) (l:List Rs):Rq×Tp :=
 bif decide (t.s.v 5=1) then (⟨(pF t.s.s.s l).1,t.v 8,1+t.s.s.v 20⟩,(pF t.s.s.s l).2) else (⟨(pF t.s.s l).1,t.v 8,0⟩,(pF t.s.s l).2)
def zd (t:Tp) (l:List Rs):Cm×Tp :=
 let n:=t.v 16
 let p:=iR (t.s.v 6)
 let u:=t.s.s
 bif decide (n=0) then (⟨1,p,Rq.zero,⟨#[]⟩,1+u.v 9⟩,u.s) else
 bif decide (n<9) then (⟨2,p,(CY u l).1,⟨#[]⟩,0⟩,(CY u l).2) else
 bif decide (n=9) then (⟨3,p,Rq.zero,⟨#[]⟩,0⟩,u) else
 bif decide (n=10) then (⟨4,p,Rq.zero,(l.getD (u.v l.length).toNat ⟨⟨#[]⟩,0,0,0⟩).name,0⟩,u.s) else
 bif decide (n=11) then (⟨5,p,Rq.zero,⟨#[]⟩,1+u.v 4⟩,u.s) else
 bif decide (n=12) then (⟨6,p,Rq.zero,⟨#[]⟩,u.v 5⟩,u.s) else
 bif decide (n=13) then (⟨7,p,Rq.zero,⟨#[]⟩,0⟩,u) else
 bif decide (n=14) then (⟨8,p,Rq.zero,⟨#[]⟩,0⟩,u) else (⟨9,p,Rq.zero,⟨#[]⟩,u.v 12⟩,u.s)
def A4 (i:Int) (t:Tp):Cm:=⟨1,iR i,Rq.zero,⟨#[]⟩,1+t.v 9⟩
def vR (cat:List Rs):Nat->Tp->List Cm
 | 0,_=>[]
 | n+1,t=>bif decide (t.at_<t.l.length) then (zd t cat).1 :: vR cat n (zd t cat).2 else []
def gJ (l:List Int):List Rs×List Cm :=
 let c:=toZ ⟨l,0⟩
 let t:=c.2
 (c.1,[A4 0 t,A4 1 t.s,A4 2 t.s.s,A4 3 t.s.s.s]++vR c.1 l.length t.s.s.s.s)
def lF (r:Rs):Qu:=⟨r,[],[],[],0⟩
def A5:Cs->List Cm->Cs
 | c,[]=>c
 | c,k :: l=>A5 (bif decide ((nL c k).2.2=0) then (nL c k).1 else c) l
theorem pG:∀(l:List Cm) (c:Cs),dA c=true->dA (A5 c l)=true
 | [],_,h=>h
 | k :: l,c,h=>by
  show dA (A5 (bif decide ((nL c k).2.2=0) then (nL c k).1 else c) l)=true;by_cases he:(nL c k).2.2=0
  ·rw [qDt he];exact pG l _ (zc he).2
  ·rw [qDf he];exact pG l c h
structure Adv (t t':Tp):Prop where
 l:t'.l=t.l
 le:t.at_<=t'.at_
 ok:t.at_<=t.l.length->t'.at_<=t'.l.length
theorem Adv.refl (t:Tp):Adv t t:=⟨rfl,Nat.le_refl _,id⟩
theorem Adv.trans {a b c:Tp} (h:Adv a b) (k:Adv b c):Adv a c:=⟨k.l.trans h.l,Nat.le_trans h.le k.le,fun e=>k.ok (h.ok e)⟩
theorem Adv.s (t:Tp):Adv t t.s:=⟨t.s_l,t.s_le,t.s_at⟩
theorem Adv.ss {t u:Tp} (h:Adv t u):Adv t u.s:=h.trans (Adv.s u)
theorem xT {f:Tp->Ex×Tp} (hf:∀t,Adv t (f t).2):∀(n:Nat) (t:Tp),Adv t (lw f n t).2
 | 0,t=>Adv.refl t
 | n+1,t=>(hf t).trans (xT hf n (f t).2)
theorem oz (L:List Tm):∀(d:Nat) (t:Tp),Adv t (fL L d t).2
 | 0,t=>Adv.s t
 | d+1,t=>by
  unfold fL;cases decide (t.v 4=0) with
  | true=>exact (Adv.s t).ss
  | false=>exact (Adv.s t).ss.ss.trans (xT (oz L d) _ _)
theorem xU (t:Tp) (l:List Rs):Adv t (pF t l).2:=(Adv.s t).trans (oz _ 2 _)
theorem IG (t:Tp) (l:List Rs):Adv t (CY t l).2:=by
 unfold CY;cases decide (t.s.v 5=1) with
 | true=>exact (Adv.s t).ss.ss.trans (xU _ _)
 | false=>exact (Adv.s t).ss.trans (xU _ _)
theorem IH (t:Tp) (l:List Rs):Adv t.s (zd t l).2:=by
 have h:=Adv.s t.s;have h1:=h.ss;have h2:=h.trans (IG t.s.s l);unfold zd;dsimp only;generalize decide (t.v 16=0)=b0;generalize decide (t.v 16<9)=b1;generalize decide (t.v 16=9)=b2;generalize decide (t.v 16=10)=b3;generalize decide (t.v 16=11)=b4;generalize decide (t.v 16=12)=b5;generalize decide (t.v 16=13)=b6;generalize decide (t.v 16=14)=b7;cases b0
 case true=>exact h1
 cases b1
 case true=>exact h2
 cases b2
 case true=>exact h
 cases b3
 case true=>exact h1
 cases b4
 case true=>exact h1
 cases b5
 case true=>exact h1
 cases b6
 case true=>exact h
 cases b7
 case true=>exact h
 exact h1
section
open Go.Shelf
attribute [local go_sem] Oper.semAt_some
abbrev BE:=Int×Sv
def I8 (x:BE):Array Value:=#[.int .i64 x.1,.agg #[.int .i64 x.2.label,.int .i64 x.2.at_]]
def bk (zs:List Sv) (k:Nat):List BE:=(List.range k).map fun j=>(((zs.length-1-j:Nat):Int),zs[zs.length-1-j]?.getD ⟨0,0⟩)
theorem LD (zs:List Sv) (k:Nat):bk zs (k+1)=bk zs k++[(((zs.length-1-k:Nat):Int),zs[zs.length-1-k]?.getD ⟨0,0⟩)]:=by simp [bk,List.range_succ]
theorem Gg (zs:List Sv) (k:Nat):(bk zs k).length=k:=by simp [bk]
theorem NY (zs:List Sv):(bk zs zs.length).map (·.2)=zs.reverse:=by
 apply List.ext_getElem
 ·simp [bk]
 ·intro i h1 h2;simp only [bk,List.length_map,List.length_range] at h1;simp only [bk,List.getElem_map,List.getElem_range,List.getElem_reverse];rw [qGg (by omega)];rfl
def KpT (T:Nat->Prop) (W W':World):Prop:=∀b,T b->W'.heap[b]? = W.heap[b]?
theorem KpT.cell {T:Nat->Prop} {W W':World} (h:KpT T W W') {b o:Nat} (hb:T b):W'.cell? ⟨b,o,none⟩=W.cell? ⟨b,o,none⟩:=by
 simp only [World.cell?,h b hb]
theorem LE (n:Nat) (hn:1<=n) (l Bs b off cap:Nat) (zs:List Sv) (hreach:zs.length*16<=140737488351232) (T:Nat->Prop) (hb:T b) (hB:T Bs) (J Jx:List BE->World->Prop)
  (hY:∀pre x W,J pre W->pre.length<zs.length->YieldAt Fence.wide (n-1) prog l (I8 x) W fun e W' =>
   (e = .returned (.bool true)/\J (pre++[x]) W'/\KpT T W W')\/(e = .returned (.bool false)/\Jx (pre++[x]) W'))
  (W:World) (hBs:W.cell? ⟨Bs,0,none⟩=some (.slice (some ⟨b,off,none⟩) zs.length cap))
  (hc:∀j (h:j<zs.length),W.cell? ⟨b,off+j*2,none⟩=some (.int .i64 (zs[j]?.getD ⟨0,0⟩).label)/\W.cell? ⟨b,off+j*2+1,none⟩=some (.int .i64 (zs[j]?.getD ⟨0,0⟩).at_)) (h0:J [] W) :
  CallsIn Fence.wide n prog 221 #[.func (.yield l) #[] #[],.pointer (some ⟨Bs,0,none⟩)] W fun e W'=>(∃v,e = .returned v)/\
   ((∃ys,ys.map (·.2)=zs.reverse/\J ys W')\/(∃pre,True/\Jx pre W')):=by
 refine callsIn_of_wp func221 rfl trivial ?_ rfl;simp only [ntmps221,List.size_toArray,List.length_cons,List.length_nil,Nat.reduceAdd,Nat.reduceSub,Array.replicate_succ,Array.replicate_zero,List.push_toArray,List.append_toArray,List.nil_append,List.cons_append]
 gi_wp2
 gi_loopw [3] (fun i wr=>∃k:Nat,(k=zs.length/\i = .int .i64 (-1)\/∃m:Nat,m+1+k=zs.length/\i = .int .i64 (m:Int))/\J (bk zs k) wr/\KpT T W wr)
  (fun i _=>(intOf i+1).toNat)
 case atStart =>
  refine ⟨0,?_,h0,fun _ _=>rfl⟩;rcases Nat.eq_zero_or_pos zs.length with h|h
  ·left;rw [h];exact ⟨rfl,by simp⟩
  ·right;exact ⟨zs.length-1,by omega,by congr 1;omega⟩
 case round =>
  obtain ⟨k,hik,hJs,hnx⟩:=hrel;have hBs':=(hnx.cell hB).trans hBs;rcases hik with ⟨rfl,rfl⟩|⟨m,hm,rfl⟩
  ·gi_wp2
   go_end0
   exact ⟨⟨_,rfl⟩,.inl ⟨_,NY zs,hJs⟩⟩
  ·have hlt:m<zs.length:=by omega
   have hcx1:=(hnx.cell hb).trans (hc m (by omega)).1;have hcx2:=(hnx.cell hb).trans (hc m (by omega)).2;have hbk:bk zs (k+1)=bk zs k++[((m:Int),zs[m]?.getD ⟨0,0⟩)]:=by
    rw [LD,show zs.length-1-k=m by omega]
   obtain ⟨x,hx⟩:=qGe (zs[m]?.getD ⟨0,0⟩);rw [hx] at hcx1 hcx2 hbk;clear hx;obtain ⟨fn,tmps,assign,body,hy,hR⟩:=hY _ ((m:Int),x) wr hJs (by rw [Gg];omega);unfold I8 at hy;dsimp only at hy
   gi_wp2
   refine hR.mono ?_;rintro e W3 (⟨rfl,hJ3,hk3⟩|⟨rfl,hJx3⟩)
   ·gi_wp2
    go_roundw
    case rel =>
     refine ⟨k+1,?_,by rw [hbk];exact hJ3,fun b hb=>(hk3 b hb).trans (hnx b hb)⟩;cases m with
     | zero=>left;exact ⟨by omega,by simp⟩
     | succ m=>right;exact ⟨m,by omega,by congr 1;omega⟩
    case measure=>first|(simp [intOf];done)|(simp [intOf];omega)
   ·gi_wp2
    refine bodyPost_ret (results_none rfl _ _ _) rfl ?_;exact ⟨⟨_,rfl⟩,.inr ⟨_,trivial,hJx3⟩⟩
theorem LF (n l Bs:Nat) (A:Option Addr) (cap:Nat) (J:List BE->World->Prop) (W:World) (hBs:W.cell? ⟨Bs,0,none⟩=some (.slice A 0 cap)) (h0:J [] W) :
  CallsIn Fence.wide n prog 221 #[.func (.yield l) #[] #[],.pointer (some ⟨Bs,0,none⟩)] W fun e W'=>(∃v,e = .returned v)/\J [] W':=by
 refine callsIn_of_wp func221 rfl trivial ?_ rfl;simp only [ntmps221,List.size_toArray,List.length_cons,List.length_nil,Nat.reduceAdd,Nat.reduceSub,Array.replicate_succ,Array.replicate_zero,List.push_toArray,List.append_toArray,List.nil_append,List.cons_append]
 gi_wp2
 gi_loopw [3] (fun i wr=>i = .int .i64 (-1)/\J [] wr) (fun _ _=>0)
 case atStart=>exact ⟨rfl,h0⟩
 case round =>
  obtain ⟨rfl,hJs⟩:=hrel
  gi_wp2
  go_end0
  exact ⟨⟨_,rfl⟩,hJs⟩
theorem Gh (n:Nat) (hn:1<=n) (Bs:Nat) (zs:List Sv) (hreach:zs.length*16<=140737488351232) (T S:Nat->Prop) (w:World) (A:Option Addr) (cap:Nat) (hBs:w.cell? ⟨Bs,0,none⟩=some (.slice A zs.length cap)) (hR:RowsAt ji w S A zs) (hS:∀b,S b->T b/\b<w.heap.size) (hT:T Bs) (hlt:Bs<w.heap.size) :
  SeqStopsK Fence.wide n prog 221 #[.pointer (some ⟨Bs,0,none⟩)] I8 (KpT T) (fun ys=>ys.map (·.2)=zs.reverse) (fun _=>True) zs.length w:=fun l J Jx W hW _ _ hY h0=>by
 have hc':=(hW.cell (p:=⟨Bs,0,none⟩) hlt).trans hBs;rcases Nat.eq_zero_or_pos zs.length with hz|hz
 ·obtain rfl:zs=[]:=List.eq_nil_of_length_eq_zero hz;exact (LF n l Bs A cap J W hc' h0).mono fun e W' ⟨he,hj⟩=>⟨he,.inl ⟨[],rfl,hj⟩⟩
 ·obtain ⟨b,off,cs,rfl,hb,_,_⟩:=hR.get (i:=0) hz;refine LE n hn l Bs b off cap zs hreach T (hS b hb).1 hT J Jx hY W hc' (fun j hj=>?_) h0;obtain ⟨b',off',cs',e1,_,h5,h6⟩:=hR.getx hj rfl;injection e1 with e1;injection e1 with e1 e2;subst e1;subst e2;have h5:cs'=[.int .i64 zs[j].label,.int .i64 zs[j].at_]:=h5;subst h5;rw [qGg hj,Option.getD_some];have k0:=h6 0 (by decide);have k1:=h6 1 (by decide);exact ⟨(hW.cell (p:=⟨b,off+j*2,none⟩) (hS b hb).2).trans k0,(hW.cell (p:=⟨b,off+j*2+1,none⟩) (hS b hb).2).trans k1⟩
end
end Go.Proofs.YtkkbopkbjacfmaaGreatDoor
