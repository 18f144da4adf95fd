/- Part K12 of a proof of statements of chapter 15 (no condition). -/
import Derived.Test.YthpgjkjgkhjjlaaGreatDoorK06
import Derived.Test.YthpgjkjgkhjjlaaGreatDoorK09
set_option linter.unusedVariables false
set_option linter.unusedSimpArgs false
set_option maxRecDepth 100000
set_option maxHeartbeats 64000000
namespace Go.Proofs.YthpgjkjgkhjjlaaGreatDoor
open Go.RowKit
def Je (q:Qu) (k:Nat) (x:Wt):Bool:=decide (eH q.convs x.proc=(k:Int)) && !aR (ah q.holds x.proc) && aS q.res x.am && bq q.res x.am (ah q.holds x.proc) && !decide (x.am=ah q.holds x.proc) && decide (x.prio=0) && decide (x.passed=0)
def BN (q:Qu):Nat->List Wt->Bool
 | _,[]=>true
 | k,x :: l=>Je q k x && BN q (k+1) l
def RJ (q:Qu):Bool:=decide (q.convs.length<=8) && BN q 0 q.convs
def Aa (q:Qu):List Wt->Bool
 | []=>true
 | x :: l=>aS q.res x.am && aR (ah q.holds x.proc) && Aa q l
def RK (q:Qu):Bool:=fc q.waits && decide (q.holds.length+q.waits.length<=8) && Aa q q.waits
def jt (q:Qu):Bool:=iB q.res && zX q.res q.holds && RJ q && RK q && decide (0<=q.gen) && decide (q.gen<=1073741824)
def ay (q:Qu):Bool:=jt q && match dD q with
 | none=>true
 | some x=>!gO q.res q.holds x.proc x.am
theorem rW (q:Qu) (k:Nat) (x:Wt) (l:List Wt):BN q k (x :: l)=(Je q k x && BN q (k+1) l):=rfl
theorem rX (q:Qu) (x:Wt) (l:List Wt):Aa q (x :: l)=(aS q.res x.am && aR (ah q.holds x.proc) && Aa q l):=rfl
def Hf (p:Option ByteArray) (n:ByteArray):Bool:=match p with|none=>true|some m=>Op.bytesLess m.toList n.toList
def mN:Option ByteArray->List Qu->Bool
 | _,[]=>true
 | p,q :: l=>ay q && Hf p q.res.name && mN (some q.res.name) l
theorem eM (p:Option ByteArray) (q:Qu) (l:List Qu):mN p (q :: l)=(ay q && Hf p q.res.name && mN (some q.res.name) l):=rfl
def gu (l:List Qu):Bool:=decide (l.length<=8) && mN none l
def xQ (l:List Qu) (k:Nat):Option ByteArray:=if k=0 then none else (l[k-1]?).map (·.res.name)
theorem xR (l:List Qu):xQ l 0=none:=rfl
theorem lD {l:List Qu} {k:Nat} {x:Qu} (h:k<l.length) (hx:l[k]=x):xQ l (k+1)=some x.res.name:=by
 unfold xQ;rw [if_neg (by omega),Nat.add_sub_cancel,qGg h,hx];rfl
theorem Ax {l:List Qu} {k:Nat} {x:Qu} (h0:0<k) (h:k-1<l.length) (hx:l[k-1]=x):xQ l k=some x.res.name:=by
 unfold xQ;rw [if_neg (by omega),qGg h,hx];rfl
theorem mV {p:Pr}:∀{l:List Wt} {k:Nat},(∀x∈l,x.proc≠p)->iS p k l = -1
 | [],_,_=>rfl
 | x :: l,k,h=>by
  rw [fx,qDf (h x (by simp)),qCf];exact mV fun y hy=>h y (by simp [hy])
theorem uZ {p:Pr}:∀{l:List Wt} {k:Nat},(∃x∈l,x.proc=p)->(k:Int)<=iS p k l/\iS p k l<(k:Int)+l.length
 | [],_,h=>by obtain ⟨_,h,_⟩:=h;cases h
 | x :: l,k,h=>by
  rw [fx];by_cases hx:x.proc=p
  ·rw [qDt hx,qCt,List.length_cons];omega
  ·rw [qDf hx,qCf,List.length_cons];have h2:∃y∈l,y.proc=p:=by
    obtain ⟨y,hy,e⟩:=h;rcases List.mem_cons.1 hy with rfl|hy
    ·exact absurd e hx
    ·exact ⟨y,hy,e⟩
   have:=uZ (k:=k+1) h2;omega
theorem JF {l:List Wt} {p:Pr}:eH l p<0↔∀x∈l,x.proc≠p:=by
 constructor
 ·intro h x hx e;have:=(uZ (k:=0) ⟨x,hx,e⟩).1;unfold eH at h;omega
 ·intro h;unfold eH;rw [mV h];omega
theorem yk:∀(l:List Wt) (k:Nat) (all:List Wt) (pre:List Wt),all=pre++l->k=pre.length->(cK pre).Nodup->((∀j (h:j<l.length),eH all l[j].proc=((k+j:Nat):Int))↔(cK all).Nodup)
 | [],k,all,pre,hall,_,hp=>by
  subst hall;simpa using hp
 | x :: l,k,all,pre,hall,hk,hp=>by
  have hx:eH all x.proc=(k:Int)↔∀y∈pre,y.proc≠x.proc:=by
   have gen:∀(pre:List Wt) (k0:Nat),iS x.proc k0 (pre++x :: l)=((k0+pre.length:Nat):Int)↔∀y∈pre,y.proc≠x.proc:=by
    intro pre;induction pre with
    | nil=>intro k0;simp [fx]
    | cons y pre ih =>
     intro k0;rw [List.cons_append,fx,List.length_cons];by_cases hy:y.proc=x.proc
     ·rw [qDt hy,qCt];constructor
      ·intro h;omega
      ·intro h;exact absurd hy (h y (by simp))
     ·rw [qDf hy,qCf];have h1:=ih (k0+1);have e1:((k0+(pre.length+1):Nat):Int)=((k0+1+pre.length:Nat):Int):=by omega
      rw [e1,h1];constructor
      ·intro h z hz;rcases List.mem_cons.1 hz with rfl|hz
       ·exact hy
       ·exact h z hz
      ·intro h z hz;exact h z (by simp [hz])
   rw [hall,hk];have:=gen pre 0
   rwa [Nat.zero_add] at this
  have ih:=fun hp2=>yk l (k+1) all (pre++[x]) (by rw [hall];simp) (by simp [hk]) hp2;have hpx:(cK (pre++[x])).Nodup↔∀y∈pre,y.proc≠x.proc:=by
   unfold cK at hp ⊢;rw [List.map_append,List.nodup_append];constructor
   ·rintro ⟨_,_,h⟩ y hy;exact h y.proc (List.mem_map.2 ⟨y,hy,rfl⟩) x.proc (by simp)
   ·intro h;refine ⟨hp,by simp,?_⟩;intro a ha b hb;obtain ⟨y,hy,rfl⟩:=List.mem_map.1 ha;simp at hb;subst hb;exact h y hy
  constructor
  ·intro h;have h0:eH all x.proc=(k:Int):=by have:=h 0 (by simp);simpa using this
   refine (ih (hpx.2 (hx.1 h0))).1 fun j hj=>?_;have:=h (j+1) (by simp;omega);simp only [List.getElem_cons_succ] at this;rw [this];omega
  ·intro h j hj;have h1:(cK (pre++[x])).Nodup:=by
    have e:cK all=cK (pre++[x])++cK l:=by rw [hall];simp [cK]
    rw [e] at h;exact (List.nodup_append.1 h).1
   cases j with
   | zero=>simpa using hx.2 (hpx.1 h1)
   | succ j =>
    have:=(ih h1).2 h j (by simp at hj;omega);exact Wb
theorem va (l:List Wt):(∀j (h:j<l.length),eH l l[j].proc=((j:Nat):Int))↔(cK l).Nodup:=by
 have:=yk l 0 l [] rfl rfl (by simp [cK]);simpa using this
theorem DM (all:List Wt):∀(l:List Wt) (k:Nat),BM all k l=true↔(∀x∈l,uO x=true)/\∀j (h:j<l.length),eH all l[j].proc=((k+j:Nat):Int)
 | [],k=>by simp [BM]
 | x :: l,k=>by
  rw [nT];simp only [qBa,decide_eq_true_eq,DM all l];constructor
  ·rintro ⟨⟨h1,h2⟩,h3,h4⟩;refine ⟨?_,?_⟩
   ·intro y hy;rcases List.mem_cons.1 hy with rfl|hy
    ·exact h1
    ·exact h3 y hy
   ·intro j hj;cases j with
    | zero=>simpa using h2
    | succ j =>
     have:=h4 j (by simp at hj;omega);exact Wb
  ·exact Vo
theorem AJ {l:List Wt}:fc l=true↔l.length<=8/\(∀x∈l,uO x=true)/\(cK l).Nodup:=by
 unfold fc;simp only [qBa,decide_eq_true_eq,DM,Nat.zero_add,va]
structure CvOk (r:Rs) (hs:List Ho) (x:Wt):Prop where
 held:ah hs x.proc≠⟨0,0⟩
 fit:aS r x.am=true
 cov:bq r x.am (ah hs x.proc)=true
 ne:x.am≠ah hs x.proc
 prio:x.prio=0
 passed:x.passed=0
theorem bN {a:Am}:aR a=false↔a≠⟨0,0⟩:=by unfold aR;simp
theorem DN (q:Qu):∀(l:List Wt) (k:Nat),BN q k l=true↔(∀x∈l,CvOk q.res q.holds x)/\∀j (h:j<l.length),eH q.convs l[j].proc=((k+j:Nat):Int)
 | [],k=>by simp [BN]
 | x :: l,k=>by
  rw [rW,qBa,DN q l];have h0:Je q k x=true↔CvOk q.res q.holds x/\eH q.convs x.proc=(k:Int):=by
   unfold Je;simp only [qBa,decide_eq_true_eq,Bool.not_eq_true',bN,decide_eq_false_iff_not];constructor
   ·rintro ⟨⟨⟨⟨⟨⟨h1,h2⟩,h3⟩,h4⟩,h5⟩,h6⟩,h7⟩;exact ⟨⟨h2,h3,h4,h5,h6,h7⟩,h1⟩
   ·rintro ⟨⟨h2,h3,h4,h5,h6,h7⟩,h1⟩;exact ⟨⟨⟨⟨⟨⟨h1,h2⟩,h3⟩,h4⟩,h5⟩,h6⟩,h7⟩
  rw [h0];constructor
  ·rintro ⟨⟨h1,h2⟩,h3,h4⟩;refine ⟨?_,?_⟩
   ·intro y hy;rcases List.mem_cons.1 hy with rfl|hy
    ·exact h1
    ·exact h3 y hy
   ·intro j hj;cases j with
    | zero=>simpa using h2
    | succ j =>
     have:=h4 j (by simp at hj;omega);exact Wb
  ·exact Vo
theorem DO (q:Qu):∀l:List Wt,Aa q l=true↔∀x∈l,aS q.res x.am=true/\ah q.holds x.proc=⟨0,0⟩
 | []=>by simp [Aa]
 | x :: l=>by
  rw [rX];simp only [qBa,DO q l];have hz:aR (ah q.holds x.proc)=true↔ah q.holds x.proc=⟨0,0⟩:=by unfold aR;simp
  rw [hz];constructor
  ·rintro ⟨⟨h1,h2⟩,h3⟩ y hy;rcases List.mem_cons.1 hy with rfl|hy
   ·exact ⟨h1,h2⟩
   ·exact h3 y hy
  ·intro h;exact ⟨h x (by simp),fun y hy=>h y (by simp [hy])⟩
structure Sd (q:Qu):Prop where
 res:iB q.res=true
 hv:Hv q.res q.holds
 clen:q.convs.length<=8
 cnd:(cK q.convs).Nodup
 cok:∀x∈q.convs,CvOk q.res q.holds x
 wlen:q.holds.length+q.waits.length<=8
 wnd:(cK q.waits).Nodup
 wok:∀x∈q.waits,uO x=true/\aS q.res x.am=true/\ah q.holds x.proc=⟨0,0⟩
 gen:0<=q.gen/\q.gen<=1073741824
theorem oQ {q:Qu}:jt q=true↔Sd q:=by
 unfold jt RJ RK;simp only [qBa,decide_eq_true_eq,Hy,DN,DO,AJ,Nat.zero_add,va];constructor
 ·rintro ⟨⟨⟨⟨⟨h1,h2⟩,h3,h4,h5⟩,⟨⟨h6,h7,h8⟩,h9⟩,h10⟩,h11⟩,h12⟩;exact ⟨h1,h2,h3,h5,h4,h9,h8,fun x hx=>⟨h7 x hx,h10 x hx⟩,h11,h12⟩
 ·rintro ⟨h1,h2,h3,h5,h4,h9,h8,h7,h11,h12⟩;exact ⟨⟨⟨⟨⟨h1,h2⟩,h3,h4,h5⟩,⟨⟨by omega,fun x hx=>(h7 x hx).1,h8⟩,h9⟩,fun x hx=>(h7 x hx).2⟩,h11⟩,h12⟩
theorem Sd.noboth {q:Qu} (h:Sd q) {x y:Wt} (hx:x∈q.convs) (hy:y∈q.waits):x.proc≠y.proc:=fun e=>by
 have h1:=(h.cok x hx).held;rw [e,(h.wok y hy).2.2] at h1;exact h1 rfl
def g9 (q:Qu) (x:Wt):Qu:=match q.convs with
 | _ :: l=>{ q with convs:=l,holds:=cw q.holds x.proc x.am }
 | []=>{ q with waits:=q.waits.tail,holds:=cw q.holds x.proc x.am }
theorem B7 {l:List Ho} {p:Pr} {a:Am} (ha:(dA l).Pairwise g7) (h0:ah l p≠⟨0,0⟩):(cw l p a).length<=l.length:=by
 obtain ⟨x,hx,hp,_⟩:=mU h0;subst hp;have hs:=(sq ha hx).length_eq;rw [List.length_cons] at hs;unfold cw;cases aR a with
 | true=>rw [qCt];omega
 | false=>rw [qCf,pz];omega
theorem Oa {r:Rs} {l:List Ho} {p:Pr} {a:Am} (h:gO r l p a=true):Hv r (cw l p a):=by
 unfold gO at h;rw [qBa] at h;exact Hy.1 h.2
theorem CvOk.set {r:Rs} {hs:List Ho} {x:Wt} {p:Pr} {a:Am} (h:CvOk r hs x) (hp:x.proc≠p):CvOk r (cw hs p a) x:=by
 have e:ah (cw hs p a) x.proc=ah hs x.proc:=by rw [gf,if_neg hp]
 exact ⟨by rw [e];exact h.held,h.fit,by rw [e];exact h.cov,by rw [e];exact h.ne,h.prio,h.passed⟩
theorem Sd.pop {q:Qu} (h:Sd q) {x:Wt} (hx:dD q=some x) (hr:gO q.res q.holds x.proc x.am=true):Sd (g9 q x):=by
 obtain ⟨res,hs,cs,ws,gen⟩:=q;unfold dD at hx;unfold g9;have hv:=Oa hr;cases cs with
 | cons c l =>
  injection hx with hx;subst hx;have hn:(c.proc :: cK l).Nodup:=h.cnd;rw [List.nodup_cons] at hn;refine ⟨h.res,hv,by have:=h.clen;simp at this;show l.length<=8;omega,hn.2,?_,?_,h.wnd,?_,h.gen⟩
  ·intro y hy;exact (h.cok y (by simp [hy])).set fun e=>hn.1 (e▸List.mem_map.2 ⟨y,hy,rfl⟩)
  ·have h1:=B7 (a:=c.am) h.hv.asc (h.cok c (by simp)).held;have h2:=h.wlen;show (cw hs c.proc c.am).length+ws.length<=8;simp only at h1 h2;omega
  ·intro y hy;refine ⟨(h.wok y hy).1,(h.wok y hy).2.1,?_⟩;show ah (cw hs c.proc c.am) y.proc=_;rw [gf,if_neg (fun e=>h.noboth (x:=c) (by simp) hy e.symm)];exact (h.wok y hy).2.2
 | nil =>
  cases ws with
  | nil=>cases hx
  | cons c l =>
   have hx':some c=some x:=hx;injection hx' with hx';subst hx';have hn:(c.proc :: cK l).Nodup:=h.wnd;rw [List.nodup_cons] at hn;refine ⟨h.res,hv,by simp,by simp [cK],fun y hy=>absurd hy (by simp),?_,hn.2,?_,h.gen⟩
   ·have h1:=Dl hs c.proc c.am;have h2:=h.wlen;show (cw hs c.proc c.am).length+l.length<=8;simp only [List.length_cons] at h2;omega
   ·intro y hy;have hy':y∈l:=hy;refine ⟨(h.wok y (by simp [hy'])).1,(h.wok y (by simp [hy'])).2.1,?_⟩;show ah (cw hs c.proc c.am) y.proc=_;rw [gf,if_neg (show ¬y.proc=c.proc from fun e=>hn.1 (e▸List.mem_map.2 ⟨y,hy',rfl⟩))];exact (h.wok y (by simp [hy'])).2.2
def eO:Nat->Qu->List Ho->Qu×List Ho
 | 0,q,acc=>(q,acc)
 | n+1,q,acc=>match dD q with
  | none=>(q,acc)
  | some x=>bif gO q.res q.holds x.proc x.am then eO n (g9 q x) (acc++[⟨x.proc,x.am⟩]) else (q,acc)
def fQ (q:Qu):Nat:=q.convs.length+q.waits.length
def mW (q:Qu):Qu×List Ho:=eO (fQ q) q []
theorem Ga {q:Qu} {x:Wt} (hx:dD q=some x):fQ (g9 q x)+1=fQ q:=by
 obtain ⟨res,hs,cs,ws,gen⟩:=q;unfold dD at hx;unfold g9 fQ;cases cs with
 | cons c l=>simp;omega
 | nil =>
  cases ws with
  | nil=>cases hx
  | cons c l=>simp
theorem dN {q:Qu}:ay q=true↔Sd q/\∀x,dD q=some x->gO q.res q.holds x.proc x.am=false:=by
 unfold ay;rw [qBa,oQ];cases dD q with
 | none=>simp
 | some x=>simp
theorem DP (q:Qu) (x:Wt):(g9 q x).gen=q.gen/\(g9 q x).res=q.res:=by
 unfold g9;cases q.convs <;> exact ⟨rfl,rfl⟩
theorem oA:∀(n:Nat) (q:Qu) (acc:List Ho),Sd q->fQ q<=n->ay (eO n q acc).1=true/\(eO n q acc).1.gen=q.gen/\(eO n q acc).1.res=q.res
 | 0,q,acc,h,hn=>by
  refine ⟨dN.2 ⟨h,fun x hx=>?_⟩,rfl,rfl⟩;have:=Ga (show dD q=some x from hx);omega
 | n+1,q,acc,h,hn=>by
  unfold eO;cases hx:dD q with
  | none=>exact ⟨dN.2 ⟨h,fun x hx2=>by rw [hx] at hx2;cases hx2⟩,rfl,rfl⟩
  | some x =>
   dsimp only;cases hr:gO q.res q.holds x.proc x.am with
   | false =>
    rw [qCf];refine ⟨dN.2 ⟨h,fun y hy=>?_⟩,rfl,rfl⟩;rw [hx] at hy;injection hy with hy;subst hy;exact hr
   | true =>
    rw [qCt];have h1:=Ga hx;have h2:=oA n (g9 q x) (acc++[⟨x.proc,x.am⟩]) (h.pop hx hr) (by omega);have h3:=DP q x;exact ⟨h2.1,h2.2.1.trans h3.1,h2.2.2.trans h3.2⟩
theorem eV {q:Qu} (h:Sd q):ay (mW q).1=true/\(mW q).1.gen=q.gen/\(mW q).1.res=q.res:=oA _ q [] h (Nat.le_refl _)
def dB (q:Qu):Qu×List Ho:=({ (mW q).1 with gen:=bc q.gen },(mW q).2)
theorem pK {n:Int}:1<=bc n/\bc n<=1073741824:=by unfold bc;split <;> omega
theorem Sd.regen {q:Qu} (h:Sd q) {g:Int} (hg:0<=g/\g<=1073741824):Sd { q with gen:=g }:=⟨h.res,h.hv,h.clen,h.cnd,h.cok,h.wlen,h.wnd,h.wok,hg⟩
theorem pL {q:Qu} (h:Sd q):ay (dB q).1=true/\(dB q).1.res=q.res:=by
 have h1:=eV h;obtain ⟨h2,h3⟩:=dN.1 h1.1;refine ⟨dN.2 ⟨h2.regen (by have:=pK (n:=q.gen);omega),fun x hx=>h3 x hx⟩,h1.2.2⟩
def oR (a b:Int):Int:=bif es 1 a && es 1 b then 1 else bif es 2 a && es 2 b then 2 else bif es 3 a && es 3 b then 3 else bif es 4 a && es 4 b then 4 else bif es 5 a && es 5 b then 5 else 0
def cn (r:Rs) (a b:Am):Am:=bif bQ r a && bQ r b then (bif bq r a b then a else bif bq r b a then b else ⟨oR a.mode b.mode,0⟩) else ⟨0,0⟩
theorem QA {h a:Int} (h1:cL h=true) (h2:cL a=true) (hc:es h a=false) :
  cL (bif es a h then a else oR h a)=true/\es (bif es a h then a else oR h a) h=true/\es (bif es a h then a else oR h a) a=true/\(bif es a h then a else oR h a)≠h:=by
 unfold cL at h1 h2;simp only [qBa,decide_eq_true_eq] at h1 h2;have e1:h=1\/h=2\/h=3\/h=4\/h=5:=by omega
 have e2:a=1\/a=2\/a=3\/a=4\/a=5:=by omega
 rcases e1 with rfl|rfl|rfl|rfl|rfl <;> rcases e2 with rfl|rfl|rfl|rfl|rfl <;> first|(exact absurd hc (by decide))|decide
theorem dw {r:Rs} {a:Am} (h:aS r a=true):bQ r a=true:=by
 have h2:=h;unfold aS at h2;unfold bQ;rw [qBa] at h2 ⊢;exact ⟨h2.1,by rw [h,Bool.or_true]⟩
theorem eW {r:Rs} {a:Am} (h:aS r a=true):aR a=false:=by
 rw [bN];rintro rfl;unfold aS cL at h;simp at h
theorem yl {r:Rs} {a:Am} (h:aS r a=true):bq r a a=true:=by
 have hp:=dw h;have hz:=eW h;unfold bq;rw [hp,hz];unfold aS at h;by_cases hk:r.kind=1
 ·rw [if_pos hk] at h;rw [if_pos hk];simp only [qBa] at h;unfold es;simp [h.2.1]
 ·simp [hk]
theorem Hz {r:Rs} {h a:Am} (h1:aS r h=true) (h2:aS r a=true) (hc:bq r h a=false) :
  aS r (cn r h a)=true/\bq r (cn r h a) h=true/\bq r (cn r h a) a=true/\cn r h a≠h:=by
 have p1:=dw h1;have p2:=dw h2;have z1:=eW h1;have z2:=eW h2;have hs:br r=true:=by unfold aS at h1;rw [qBa] at h1;exact h1.1
 unfold cn;rw [p1,p2,hc];simp only [Bool.and_true,qCt,qCf];rcases cW hs with ⟨hk,_⟩|⟨hk,_⟩
 ·obtain ⟨hm,hu⟩:=h;obtain ⟨am,au⟩:=a;have f1:=h1;have f2:=h2;unfold aS at f1 f2;rw [if_pos hk] at f1 f2;simp only [qBa,decide_eq_true_eq] at f1 f2;obtain ⟨_,m1,rfl⟩:=f1;obtain ⟨_,m2,rfl⟩:=f2;have cv:∀x y:Int,cL x=true->cL y=true->bq r ⟨x,0⟩ ⟨y,0⟩=es x y:=by
   intro x y hx hy;have ft:∀z:Int,cL z=true->aS r ⟨z,0⟩=true:=by intro z hz;unfold aS;rw [if_pos hk,hs,hz];rfl
   have p3:=dw (ft x hx);have p4:=dw (ft y hy);have z3:=eW (ft x hx);have z4:=eW (ft y hy);unfold bq;rw [p3,p4,z3,z4,if_pos hk];rfl
  rw [cv _ _ m1 m2] at hc;obtain ⟨s1,s2,s3,s4⟩:=QA m1 m2 hc;rw [cv _ _ m2 m1];have e:(bif es am hm then (⟨am,0⟩:Am) else ⟨oR hm am,0⟩)=⟨bif es am hm then am else oR hm am,0⟩:=by cases es am hm <;> rfl
  rw [e,cv _ _ s1 m1,cv _ _ s1 m2];refine ⟨?_,s2,s3,?_⟩
  ·unfold aS;rw [if_pos hk,hs,s1];rfl
  ·intro h;injection h with h;exact s4 h
 ·have hk1:¬r.kind=1:=by omega
  have hc2:h.units<a.units:=by
   unfold bq at hc;rw [p1,p2,z1,z2,if_neg hk1] at hc;simpa using hc
  have c2:bq r a h=true:=by
   unfold bq;rw [p1,p2,z1,z2,if_neg hk1];simp;omega
  rw [c2,qCt];exact ⟨h2,c2,yl h2,fun e=>by rw [e] at hc2;omega⟩
def iH (x:Wt):Wt:={ x with passed:=x.passed+1 }
def jY (w:Wt) (l:List Wt):Nat->Nat
 | 0=>0
 | n+1=>match l[n]? with
  | none=>n+1
  | some x=>bif decide (x.prio<w.prio) && decide (x.passed<3) then jY w l n else n+1
def jH (l:List Wt) (w:Wt):List Wt:=l.take (jY w l l.length)++w :: (l.drop (jY w l l.length)).map iH
theorem HA (w:Wt) (l:List Wt):∀n,jY w l n<=n
 | 0=>Nat.le_refl _
 | n+1=>by
  unfold jY;cases l[n]? with
  | none=>exact Nat.le_refl _
  | some x =>
   dsimp only;cases decide (x.prio<w.prio) && decide (x.passed<3) with
   | true=>have:=HA w l n;simp only [qCt];omega
   | false=>exact Nat.le_refl _
theorem AK (w:Wt) (l:List Wt):∀n j x,jY w l n<=j->j<n->l[j]? = some x->x.prio<w.prio/\x.passed<3
 | 0,_,_,_,h,_=>absurd h (by omega)
 | n+1,j,x,hk,hj,hx=>by
  unfold jY at hk;by_cases hjn:j=n
  ·subst hjn;rw [hx] at hk;dsimp only at hk;cases hc:decide (x.prio<w.prio) && decide (x.passed<3) with
   | true=>simpa using hc
   | false=>rw [hc] at hk;simp only [qCf] at hk;omega
  ·cases hn:l[n]? with
   | none=>rw [hn] at hk;dsimp only at hk;omega
   | some y =>
    rw [hn] at hk;dsimp only at hk;cases hc:decide (y.prio<w.prio) && decide (y.passed<3) with
    | true=>rw [hc] at hk;exact AK w l n j x hk (by omega) hx
    | false=>rw [hc] at hk;simp only [qCf] at hk;omega
theorem DQ (l:List Wt) (w:Wt):(jH l w).length=l.length+1:=by
 unfold jH;have:=HA w l l.length;simp;omega
theorem Gb (l:List Wt) (w:Wt):(cK (jH l w)).Perm (w.proc :: cK l):=by
 have e:cK (jH l w)=cK (l.take (jY w l l.length))++w.proc :: cK (l.drop (jY w l l.length)):=by
  unfold jH cK;rw [List.map_append,List.map_cons,List.map_map];rfl
 have e2:cK l=cK (l.take (jY w l l.length))++cK (l.drop (jY w l l.length)):=by
  unfold cK;rw [<-List.map_append,List.take_append_drop]
 rw [e]
 conv=>rhs;rw [e2]
 exact List.perm_middle
theorem ym {l:List Wt} {w x:Wt} (hx:x∈jH l w):x=w\/x∈l\/∃y∈l,x=iH y/\y.prio<w.prio/\y.passed<3:=by
 unfold jH at hx;rcases List.mem_append.1 hx with hx|hx
 ·exact .inr (.inl (List.mem_of_mem_take hx))
 ·rcases List.mem_cons.1 hx with hx|hx
  ·exact .inl hx
  ·obtain ⟨y,hy,rfl⟩:=List.mem_map.1 hx;obtain ⟨j,hj,e⟩:=List.mem_iff_getElem.1 hy;rw [List.getElem_drop] at e;rw [List.length_drop] at hj;have h1:=AK w l l.length (jY w l l.length+j) y (by omega) (by omega) (by rw [qGg (by omega),e]);exact .inr (.inr ⟨y,List.mem_of_mem_drop hy,rfl,h1⟩)
theorem fh {l:List Wt} {p:Pr}:iT l p=none↔∀x∈l,x.proc≠p:=by
 induction l with
 | nil=>simp [iT]
 | cons x l ih =>
  rw [du];by_cases hx:x.proc=p
  ·rw [qDt hx,qCt];constructor
   ·intro h;cases h
   ·intro h;exact absurd hx (h x (by simp))
  ·rw [qDf hx,qCf,ih];constructor
   ·intro h y hy;rcases List.mem_cons.1 hy with rfl|hy
    ·exact hx
    ·exact h y hy
   ·intro h y hy;exact h y (by simp [hy])
theorem JG {l:List Wt} {p:Pr} {a:Am} (h:iT l p=some a):∃x∈l,x.proc=p/\x.am=a:=by
 induction l with
 | nil=>cases h
 | cons x l ih =>
  rw [du] at h;by_cases hx:x.proc=p
  ·rw [qDt hx,qCt] at h;injection h with h;exact ⟨x,by simp,hx,h⟩
  ·rw [qDf hx,qCf] at h;obtain ⟨y,h1,h2⟩:=ih h;exact ⟨y,by simp [h1],h2⟩
theorem fC (l m:List Wt) (p:Pr):iT (l++m) p=match iT l p with|some a=>some a|none=>iT m p:=by
 induction l with
 | nil=>rfl
 | cons x l ih =>
  rw [List.cons_append,du,du];cases decide (x.proc=p) with
  | true=>rfl
  | false=>exact ih
theorem yn {l:List Wt} {x:Wt} (hn:(cK l).Nodup) (hx:x∈l):iT l x.proc=some x.am:=by
 induction l with
 | nil=>cases hx
 | cons y l ih =>
  have hn':(y.proc :: cK l).Nodup:=hn;rw [List.nodup_cons] at hn';rw [du];rcases List.mem_cons.1 hx with rfl|hx
  ·rw [qDt rfl];rfl
  ·have:y.proc≠x.proc:=fun e=>hn'.1 (e▸List.mem_map.2 ⟨x,hx,rfl⟩);rw [qDf this,qCf];exact ih hn'.2 hx
theorem Sd.nd {q:Qu} (h:Sd q):(cK (q.convs++q.waits)).Nodup:=by
 unfold cK;rw [List.map_append,List.nodup_append];refine ⟨h.cnd,h.wnd,?_⟩;intro a ha b hb;obtain ⟨x,hx,rfl⟩:=List.mem_map.1 ha;obtain ⟨y,hy,rfl⟩:=List.mem_map.1 hb;exact h.noboth hx hy
theorem Ob {q:Qu} (h:Sd q) {x:Wt} (hx:dD q=some x) (p:Pr):(p≠x.proc/\ah (g9 q x).holds p=ah q.holds p/\aj (g9 q x) p=aj q p)\/(p=x.proc/\aj q p=some x.am/\ah (g9 q x).holds p=x.am/\aj (g9 q x) p=none):=by
 have hn:=h.nd;obtain ⟨res,hs,cs,ws,gen⟩:=q;unfold dD at hx;unfold g9 aj;cases cs with
 | cons c l =>
  injection hx with hx;subst hx;have hn':(c.proc :: cK (l++ws)).Nodup:=hn;rw [List.nodup_cons] at hn';dsimp only;rw [List.cons_append,du,gf];by_cases hp:p=c.proc
  ·exact V1
  ·exact .inl ⟨hp,by rw [if_neg hp],by rw [qDf (fun e=>hp e.symm)];rfl⟩
 | nil =>
  cases ws with
  | nil=>cases hx
  | cons c l =>
   have hx':some c=some x:=hx;injection hx' with hx';subst hx';have hn':(c.proc :: cK l).Nodup:=hn;rw [List.nodup_cons] at hn';dsimp only;rw [List.nil_append,List.nil_append,List.tail_cons,du,gf];by_cases hp:p=c.proc
   ·exact V1
   ·exact .inl ⟨hp,by rw [if_neg hp],by rw [qDf (fun e=>hp e.symm)];rfl⟩
theorem HD:∀(n:Nat) (q:Qu) (acc:List Ho),Sd q->∀p,(ah (eO n q acc).1.holds p=ah q.holds p/\aj (eO n q acc).1 p=aj q p)\/∃a,aj q p=some a/\ah (eO n q acc).1.holds p=a/\aj (eO n q acc).1 p=none
 | 0,q,acc,_,p=>.inl ⟨rfl,rfl⟩
 | n+1,q,acc,h,p=>by
  unfold eO;cases hx:dD q with
  | none=>exact .inl ⟨rfl,rfl⟩
  | some x =>
   dsimp only;cases hr:gO q.res q.holds x.proc x.am with
   | false=>exact .inl ⟨rfl,rfl⟩
   | true =>
    rw [qCt];have h1:=HD n (g9 q x) (acc++[⟨x.proc,x.am⟩]) (h.pop hx hr) p;rcases Ob h hx p with ⟨_,h2,h3⟩|⟨_,h2,h3,h4⟩
    ·rw [h2,h3] at h1;exact h1
    ·rcases h1 with ⟨h5,h6⟩|⟨a,h5,_⟩
     ·exact .inr ⟨x.am,h2,h5.trans h3,h6.trans h4⟩
     ·rw [h4] at h5;cases h5
theorem AL:∀(n:Nat) (q:Qu) (acc:List Ho),∀x∈(eO n q acc).1.waits,x∈q.waits
 | 0,q,acc,x,hx=>hx
 | n+1,q,acc,x,hx=>by
  unfold eO at hx;cases hh:dD q with
  | none=>rw [hh] at hx;exact hx
  | some y =>
   rw [hh] at hx;dsimp only at hx;cases hr:gO q.res q.holds y.proc y.am with
   | false=>rw [hr] at hx;exact hx
   | true =>
    rw [hr,qCt] at hx;have h1:=AL n (g9 q y) _ x hx;unfold g9 at h1;split at h1
    ·exact h1
    ·exact List.mem_of_mem_tail h1
def jj:Qu:=⟨⟨⟨#[]⟩,0,0,0⟩,[],[],[],0⟩
def cq (l:List Wt) (p:Pr):List Wt:=l.filter fun x=>!decide (x.proc=p)
theorem jx {l:List Wt} {p:Pr} {x:Wt}:x∈cq l p↔x∈l/\x.proc≠p:=by unfold cq;simp
theorem HW {l:List Wt} (p:Pr) (h:(cK l).Nodup):(cK (cq l p)).Nodup:=h.sublist ((List.filter_sublist).map _)
theorem kz (l:List Wt) (p:Pr):(cq l p).length<=l.length:=List.length_filter_le _ _
theorem DS (l:List Wt) (p r:Pr):iT (cq l p) r=if r=p then none else iT l r:=by
 by_cases hr:r=p
 ·rw [if_pos hr,fh];intro x hx e;exact (jx.1 hx).2 (e.trans hr)
 ·rw [if_neg hr];induction l with
  | nil=>rfl
  | cons x l ih =>
   rw [du];unfold cq at ih ⊢;rw [List.filter_cons];by_cases hx:x.proc=p
   ·rw [qDt hx,Bool.not_true,if_neg (by simp),ih,qDf (fun e=>hr (e.symm.trans hx)),qCf]
   ·rw [qDf hx,Bool.not_false,if_pos rfl,du,ih]
def jZ (l:List Wt) (w:Wt):Int×List Wt :=
 bif !fc l then (2,[]) else bif !(uO w && decide (w.passed=0)) then (1,[]) else bif decide (0<=eH l w.proc) then (11,[]) else bif decide (l.length=8) then (4,[]) else (0,jH l w)
def iY (r:Qu×List Ho):Qu×List Ho×Int:=(r.1,r.2,0)
def bR (e:Int):Qu×List Ho×Int:=(jj,[],e)
def bL (q:Qu) (p:Pr) (a:Am) (prio:Int):Qu×List Ho×Int :=
 bif !ay q then bR 2 else
 bif !(jW p && decide (0<=prio) && decide (prio<=7)) then bR 1 else
 bif !aS q.res a then bR 12 else
 bif (aj q p).isSome then bR 14 else
 bif bq q.res (ah q.holds p) a then iY (q,[]) else
 bif !aR (ah q.holds p) then iY (dB { q with convs:=q.convs++[⟨p,cn q.res (ah q.holds p) a,0,0⟩] }) else
 bif decide (8<=q.holds.length+q.waits.length) then bR 4 else
 bif !decide ((jZ q.waits ⟨p,a,prio,0⟩).1=0) then bR (jZ q.waits ⟨p,a,prio,0⟩).1 else
 iY (dB { q with waits:=(jZ q.waits ⟨p,a,prio,0⟩).2 })
def bB (q:Qu) (p:Pr):Qu×List Ho×Int :=
 bif !ay q then bR 2 else bif !(aj q p).isSome then bR 10 else iY (dB { q with convs:=cq q.convs p,waits:=cq q.waits p })
def bE (q:Qu) (p:Pr) (a:Am):Qu×List Ho×Int :=
 bif !ay q then bR 2 else bif aR (ah q.holds p) then bR 10 else bif (aj q p).isSome then bR 14 else bif !bq q.res (ah q.holds p) a then bR 12 else
 bif decide (ah q.holds p=a) then iY (q,[]) else iY (dB { q with holds:=cw q.holds p a })
def fd (q:Qu) (p:Pr):Bool:=(aj q p).isSome || !aR (ah q.holds p)
def aU (q:Qu) (p:Pr):Qu×List Ho×Int :=
 bif !ay q then bR 2 else bif !fd q p then bR 10 else iY (dB { q with holds:=cw q.holds p ⟨0,0⟩,convs:=cq q.convs p,waits:=cq q.waits p })
theorem jy {l m:List Pr} (hn:l.Nodup) (hs:∀x∈l,x∈m):l.length<=m.length:=by
 induction l generalizing m with
 | nil=>exact Nat.zero_le _
 | cons x l ih =>
  rw [List.nodup_cons] at hn;have hx:=hs x (by simp);have h1:=ih (m:=m.erase x) hn.2 fun y hy=>(List.mem_erase_of_ne (fun (e:y=x)=>hn.1 (e▸hy))).2 (hs y (by simp [hy]));have h2:=List.length_erase_of_mem hx;have h3:=List.length_pos_of_mem hx;rw [List.length_cons];omega
theorem Sd.cons {q:Qu} (h:Sd q) {p:Pr} {a:Am} (hh:ah q.holds p≠⟨0,0⟩) (hw:aj q p=none) (hf:aS q.res a=true) (hc:bq q.res (ah q.holds p) a=false) :
  Sd { q with convs:=q.convs++[⟨p,cn q.res (ah q.holds p) a,0,0⟩] }:=by
 have hnone:=fh.1 hw;obtain ⟨x,hx,hxp,hxa⟩:=mU hh;have hfh:aS q.res (ah q.holds p)=true:=by rw [<-hxa];exact (h.hv.fit x hx).2
 obtain ⟨j1,j2,j3,j4⟩:=Hz hfh hf hc;have hnp:∀y∈q.convs,y.proc≠p:=fun y hy=>hnone y (by simp [hy]);have hnd:(cK (q.convs++[⟨p,cn q.res (ah q.holds p) a,0,0⟩])).Nodup:=by
  unfold cK;rw [List.map_append,List.nodup_append];refine ⟨h.cnd,by simp,?_⟩;intro u hu v hv;obtain ⟨y,hy,rfl⟩:=List.mem_map.1 hu;simp at hv;subst hv;exact hnp y hy
 have hcok:∀y∈q.convs++[⟨p,cn q.res (ah q.holds p) a,0,0⟩],CvOk q.res q.holds y:=by
  intro y hy;rcases List.mem_append.1 hy with hy|hy
  ·exact h.cok y hy
  ·rw [List.mem_singleton] at hy;subst hy;exact ⟨hh,j1,j2,j4,rfl,rfl⟩
 refine ⟨h.res,h.hv,?_,hnd,hcok,h.wlen,h.wnd,h.wok,h.gen⟩;have hsub:∀u∈cK (q.convs++[⟨p,cn q.res (ah q.holds p) a,0,0⟩]),u∈dA q.holds:=by
  intro u hu;obtain ⟨y,hy,rfl⟩:=List.mem_map.1 hu;obtain ⟨z,hz,hzp,_⟩:=mU (hcok y hy).held;exact List.mem_map.2 ⟨z,hz,hzp⟩
 have h1:=jy hnd hsub;have h2:=h.hv.len;unfold cK dA at h1;rw [List.length_map,List.length_map] at h1;exact Nat.le_trans h1 h2
theorem mX {r:Rs} {a:Am} (h:aS r a=true):cr a=true:=by
 have hs:br r=true:=by unfold aS at h;rw [qBa] at h;exact h.1
 unfold aS at h;unfold cr;rcases cW hs with ⟨hk,_⟩|⟨hk,h1,h2⟩
 ·rw [if_pos hk] at h;simp only [qBa,decide_eq_true_eq] at h;simp [h.2.1,h.2.2]
 ·rw [if_neg (by omega)] at h;simp only [qBa,decide_eq_true_eq] at h;simp only [Bool.or_eq_true,qBa,decide_eq_true_eq];exact .inr ⟨⟨h.2.1.1,h.2.1.2⟩,by omega⟩
theorem JH {x:Wt} (h:uO x=true):jW x.proc=true/\cr x.am=true/\(0<=x.prio/\x.prio<=7)/\(0<=x.passed/\x.passed<=3):=by
 unfold uO at h;simp only [qBa,decide_eq_true_eq] at h;exact ⟨h.1.1.1.1.1,h.1.1.1.1.2,⟨h.1.1.1.2,h.1.1.2⟩,h.1.2,h.2⟩
theorem Lx {x:Wt} (h1:jW x.proc=true) (h2:cr x.am=true) (h3:0<=x.prio/\x.prio<=7) (h4:0<=x.passed/\x.passed<=3):uO x=true:=by
 unfold uO;simp only [qBa,decide_eq_true_eq];exact ⟨⟨⟨⟨⟨h1,h2⟩,h3.1⟩,h3.2⟩,h4.1⟩,h4.2⟩
theorem Sd.ins {q:Qu} (h:Sd q) {w:Wt} (hh:ah q.holds w.proc=⟨0,0⟩) (hw:aj q w.proc=none) (hf:aS q.res w.am=true) (hv:uO w=true) (hl:q.holds.length+q.waits.length<8) :
  Sd { q with waits:=jH q.waits w }:=by
 have hnone:=fh.1 hw;refine ⟨h.res,h.hv,h.clen,h.cnd,h.cok,?_,?_,?_,h.gen⟩
 ·show q.holds.length+(jH q.waits w).length<=8;rw [DQ];omega
 ·refine (Gb q.waits w).nodup_iff.2 (List.nodup_cons.2 ⟨?_,h.wnd⟩);intro hm;obtain ⟨y,hy,e⟩:=List.mem_map.1 hm;exact hnone y (by simp [hy]) e
 ·intro x hx;rcases ym hx with rfl|hx|⟨y,hy,rfl,h1,h2⟩
  ·exact ⟨hv,hf,hh⟩
  ·exact h.wok x hx
  ·have h3:=h.wok y hy;obtain ⟨v1,v2,v3,v4⟩:=JH h3.1;exact ⟨Lx (x:=iH y) v1 v2 v3 ⟨by show 0<=y.passed+1;omega,by show y.passed+1<=3;omega⟩,h3.2⟩
theorem Sd.drop {q:Qu} (h:Sd q) (p:Pr):Sd { q with convs:=cq q.convs p,waits:=cq q.waits p } :=
 ⟨h.res,h.hv,Nat.le_trans (kz _ _) h.clen,HW p h.cnd,fun x hx=>h.cok x (jx.1 hx).1,by have h1:=h.wlen;have h2:=kz q.waits p;show q.holds.length+(cq q.waits p).length<=8;omega,HW p h.wnd,fun x hx=>h.wok x (jx.1 hx).1,h.gen⟩
theorem Sd.lower {q:Qu} (h:Sd q) {p:Pr} {a:Am} (hw:aj q p=none) (h0:ah q.holds p≠⟨0,0⟩) (hc:bq q.res (ah q.holds p) a=true):Sd { q with holds:=cw q.holds p a }:=by
 have hnone:=fh.1 hw;obtain ⟨h1,h2⟩:=h.hv.lower hc h0;refine ⟨h.res,h1,h.clen,h.cnd,fun x hx=>(h.cok x hx).set (hnone x (by simp [hx])),?_,h.wnd,?_,h.gen⟩
 ·have:=h.wlen;show (cw q.holds p a).length+q.waits.length<=8;omega
 ·intro x hx;refine ⟨(h.wok x hx).1,(h.wok x hx).2.1,?_⟩;show ah (cw q.holds p a) x.proc=_;rw [gf,if_neg (hnone x (by simp [hx]))];exact (h.wok x hx).2.2
theorem AM (l:List Ho) (p:Pr):cw l p ⟨0,0⟩=fL l p:=by unfold cw aR;simp
theorem Sd.gone {q:Qu} (h:Sd q) (p:Pr):Sd { q with holds:=cw q.holds p ⟨0,0⟩,convs:=cq q.convs p,waits:=cq q.waits p }:=by
 have hd:=h.drop p;rw [AM];have hg:∀r,r≠p->ah (fL q.holds p) r=ah q.holds r:=fun r hr=>by rw [yj,if_neg hr]
 refine ⟨h.res,h.hv.fil p,hd.clen,hd.cnd,?_,?_,hd.wnd,?_,h.gen⟩
 ·intro x hx;have hx':=jx.1 hx;have h1:=h.cok x hx'.1;exact ⟨by rw [hg _ hx'.2];exact h1.held,h1.fit,by rw [hg _ hx'.2];exact h1.cov,by rw [hg _ hx'.2];exact h1.ne,h1.prio,h1.passed⟩
 ·have h1:=py q.holds p;have h2:=hd.wlen;show (fL q.holds p).length+(cq q.waits p).length<=8;have h3:q.holds.length+(cq q.waits p).length<=8:=h2;omega
 ·intro x hx;have hx':=jx.1 hx;have h1:=h.wok x hx'.1;exact ⟨h1.1,h1.2.1,by rw [hg _ hx'.2];exact h1.2.2⟩
def Eff (q q':Qu) (p:Pr):Prop:=(ah q'.holds p=ah q.holds p/\aj q' p=aj q p)\/∃a,aj q p=some a/\ah q'.holds p=a/\aj q' p=none
theorem xn {q:Qu} (h:Sd q) (p:Pr):Eff q (dB q).1 p:=by
 have:=HD (fQ q) q [] h p;exact this
theorem sr {q:Qu} {x:Wt} (hx:x∈(dB q).1.waits):x∈q.waits:=AL (fQ q) q [] x hx
theorem Eff.of {q r q':Qu} {p:Pr} (h:Eff r q' p) (h1:ah r.holds p=ah q.holds p) (h2:aj r p=aj q p):Eff q q' p:=by
 unfold Eff at *
 rw [h1,h2] at h;exact h
theorem Eff.refl (q:Qu) (p:Pr):Eff q q p:=.inl ⟨rfl,rfl⟩
structure Out (q q':Qu) (p:Pr):Prop where
 ok:ay q'=true
 res:q'.res=q.res
 eff:∀r,r≠p->Eff q q' r
 prio:∀x∈q'.waits,x.proc≠p->∃y∈q.waits,y.proc=x.proc/\y.prio=x.prio
theorem aP {q:Qu} (h:ay q=true):Sd q:=(dN.1 h).1
theorem pM {q r:Qu} {p:Pr} (h:Sd r) (hr:r.res=q.res) (he:∀s,s≠p->ah r.holds s=ah q.holds s/\aj r s=aj q s) (hp:∀x∈r.waits,x.proc≠p->∃y∈q.waits,y.proc=x.proc/\y.prio=x.prio):Out q (dB r).1 p :=
 ⟨(pL h).1,(pL h).2.trans hr,fun s hs=>(xn h s).of (he s hs).1 (he s hs).2,fun x hx hxp=>hp x (sr hx) hxp⟩
theorem Out.same {q:Qu} (p:Pr) (h:ay q=true):Out q q p:=⟨h,rfl,fun r _=>Eff.refl q r,fun x hx _=>⟨x,hx,rfl,rfl⟩⟩
theorem DT {q:Qu} {x:Wt} (s:Pr) (hs:s≠x.proc):aj { q with convs:=q.convs++[x] } s=aj q s:=by
 unfold aj;dsimp only;rw [fC,fC,fC];have:iT [x] s=none:=by rw [fh];intro y hy;rw [List.mem_singleton] at hy;subst hy;exact fun e=>hs e.symm
 rw [this];cases iT q.convs s <;> rfl
theorem yo:∀{l m:List Wt} {s:Pr},l.map (fun x=>(x.proc,x.am))=m.map (fun x=>(x.proc,x.am))->iT l s=iT m s
 | [],[],_,_=>rfl
 | [],_ :: _,_,h=>by simp at h
 | _ :: _,[],_,h=>by simp at h
 | x :: l,y :: m,s,h=>by
  simp only [List.map_cons,List.cons.injEq,Prod.mk.injEq] at h;rw [du,du,h.1.1,h.1.2,yo h.2]
theorem JI {l:List Wt} {w:Wt} {s:Pr} (hs:s≠w.proc):iT (jH l w) s=iT l s:=by
 unfold jH;have e:∀m:List Wt,iT (m.map iH) s=iT m s:=fun m=>yo (by rw [List.map_map];rfl);rw [fC,du,qDf (fun h=>hs h.symm),qCf,e]
 conv=>rhs;rw [<-List.take_append_drop (jY w l l.length) l]
 rw [fC]
theorem Gc {q:Qu} {w:Wt} (s:Pr) (hs:s≠w.proc):aj { q with waits:=jH q.waits w } s=aj q s:=by
 unfold aj;dsimp only;rw [fC,fC,JI hs]
theorem lN (q:Qu) (p s:Pr):aj { q with convs:=cq q.convs p,waits:=cq q.waits p } s=if s=p then none else aj q s:=by
 unfold aj;dsimp only;rw [fC,fC,DS,DS];by_cases h:s=p
 ·simp only [if_pos h]
 ·simp only [if_neg h]
theorem nZ {q:Qu} (h:Sd q) {p:Pr} {a:Am} {prio:Int} (hw:aj q p=none) (hf:aS q.res a=true) (hp:jW p=true) (h1:0<=prio/\prio<=7) (hl:q.holds.length+q.waits.length<8) :
  jZ q.waits ⟨p,a,prio,0⟩=(0,jH q.waits ⟨p,a,prio,0⟩)/\uO ⟨p,a,prio,0⟩=true:=by
 have hv:uO ⟨p,a,prio,0⟩=true:=Lx hp (mX hf) h1 (by simp);have hln:fc q.waits=true:=AJ.2 ⟨by omega,fun x hx=>(h.wok x hx).1,h.wnd⟩;have hnone:=fh.1 hw;have hfd:eH q.waits p<0:=JF.2 fun x hx=>hnone x (by simp [hx]);have d1:decide (0<=eH q.waits p)=false:=qDf (by omega);have d2:decide (q.waits.length=8)=false:=qDf (by omega);refine ⟨?_,hv⟩;unfold jZ;rw [hln,hv];simp only [Bool.not_true,Bool.and_self,decide_true,qCf,d1,d2]
theorem yp {q:Qu} {p:Pr} {a:Am} {prio:Int} (h:(bL q p a prio).2.2=0):Out q (bL q p a prio).1 p:=by
 unfold bL at h ⊢;cases hS:ay q with
 | false=>rw [hS] at h;simp [bR] at h
 | true =>
  have hd:=aP hS;rw [hS] at h;simp only [Bool.not_true,qCf] at h ⊢;cases hA:jW p && decide (0<=prio) && decide (prio<=7) with
  | false=>rw [hA] at h;simp [bR] at h
  | true =>
   rw [hA] at h;simp only [Bool.not_true,qCf] at h ⊢;simp only [qBa,decide_eq_true_eq] at hA;cases hF:aS q.res a with
   | false=>rw [hF] at h;simp [bR] at h
   | true =>
    rw [hF] at h;simp only [Bool.not_true,qCf] at h ⊢;cases hW:aj q p with
    | some b=>rw [hW] at h;simp [bR] at h
    | none =>
     rw [hW] at h;simp only [Option.isSome_none,qCf] at h ⊢;cases hC:bq q.res (ah q.holds p) a with
     | true=>exact Out.same p hS
     | false =>
      rw [hC] at h;simp only [qCf] at h ⊢;cases hZ:aR (ah q.holds p) with
      | false =>
       simp only [Bool.not_false,qCt];exact pM (hd.cons (bN.1 hZ) hW hF hC) rfl (fun s hs=>⟨rfl,DT s hs⟩) (fun x hx _=>⟨x,hx,rfl,rfl⟩)
      | true =>
       rw [hZ] at h;simp only [Bool.not_true,qCf] at h ⊢;by_cases hl:8<=q.holds.length+q.waits.length
       ·rw [qDt hl] at h;simp [bR] at h
       ·rw [qDf hl] at h ⊢;simp only [qCf] at h ⊢;obtain ⟨e1,hv⟩:=nZ hd hW hF hA.1.1 ⟨hA.1.2,hA.2⟩ (by omega);rw [e1];simp only [decide_true,Bool.not_true,qCf];have hz:ah q.holds p=⟨0,0⟩:=of_decide_eq_true hZ;refine pM (hd.ins hz hW hF hv (by omega)) rfl (fun s hs=>⟨rfl,Gc s hs⟩) ?_;intro x hx hxp;rcases ym hx with rfl|hx|⟨y,hy,rfl,_,_⟩
        ·exact absurd rfl hxp
        ·exact ⟨x,hx,rfl,rfl⟩
        ·exact ⟨y,hy,rfl,rfl⟩
theorem vb {q:Qu} {p:Pr} (h:(bB q p).2.2=0):Out q (bB q p).1 p:=by
 unfold bB at h ⊢;cases hS:ay q with
 | false=>rw [hS] at h;simp [bR] at h
 | true =>
  have hd:=aP hS;rw [hS] at h;simp only [Bool.not_true,qCf] at h ⊢;cases hW:(aj q p).isSome with
  | false=>rw [hW] at h;simp [bR] at h
  | true =>
   simp only [Bool.not_true,qCf];exact pM (hd.drop p) rfl (fun s hs=>⟨rfl,by rw [lN,if_neg hs]⟩) (fun x hx _=>⟨x,(jx.1 hx).1,rfl,rfl⟩)
theorem oS {q:Qu} {p:Pr} {a:Am} (h:(bE q p a).2.2=0):Out q (bE q p a).1 p:=by
 unfold bE at h ⊢;cases hS:ay q with
 | false=>rw [hS] at h;simp [bR] at h
 | true =>
  have hd:=aP hS;rw [hS] at h;simp only [Bool.not_true,qCf] at h ⊢;cases hZ:aR (ah q.holds p) with
  | true=>rw [hZ] at h;simp [bR] at h
  | false =>
   rw [hZ] at h;simp only [qCf] at h ⊢;cases hW:aj q p with
   | some b=>rw [hW] at h;simp [bR] at h
   | none =>
    rw [hW] at h;simp only [Option.isSome_none,qCf] at h ⊢;cases hC:bq q.res (ah q.holds p) a with
    | false=>rw [hC] at h;simp [bR] at h
    | true =>
     simp only [Bool.not_true,qCf];cases hE:decide (ah q.holds p=a) with
     | true=>exact Out.same p hS
     | false =>
      simp only [qCf];exact pM (hd.lower hW (bN.1 hZ) hC) rfl (fun s hs=>⟨by show ah (cw q.holds p a) s=_;rw [gf,if_neg hs],rfl⟩) (fun x hx _=>⟨x,hx,rfl,rfl⟩)
theorem vc {q:Qu} {p:Pr} (h:(aU q p).2.2=0):Out q (aU q p).1 p:=by
 unfold aU at h ⊢;cases hS:ay q with
 | false=>rw [hS] at h;simp [bR] at h
 | true =>
  have hd:=aP hS;rw [hS] at h;simp only [Bool.not_true,qCf] at h ⊢;cases hH:fd q p with
  | false=>rw [hH] at h;simp [bR] at h
  | true =>
   simp only [Bool.not_true,qCf];refine pM (hd.gone p) rfl (fun s hs=>⟨by show ah (cw q.holds p ⟨0,0⟩) s=_;rw [gf,if_neg hs],?_⟩) (fun x hx _=>⟨x,(jx.1 hx).1,rfl,rfl⟩);have:=lN q p s;rw [if_neg hs] at this;exact this
theorem jM {l:List Ho} (ha:(dA l).Pairwise g7) {x:Ho} (hx:x∈l):ah l x.proc=x.am:=by
 induction l with
 | nil=>cases hx
 | cons y l ih =>
  have ha':(y.proc :: dA l).Pairwise g7:=ha;obtain ⟨h1,h2⟩:=List.pairwise_cons.1 ha';show (bif decide (y.proc=x.proc) then y.am else ah l x.proc)=x.am;rcases List.mem_cons.1 hx with rfl|hx
  ·rw [qDt rfl];rfl
  ·have h3:=h1 x.proc (List.mem_map.2 ⟨x,hx,rfl⟩);rw [qDf (fun (e:y.proc=x.proc)=>co _ (e▸h3)),qCf];exact ih h2 hx
theorem eX {q:Qu} (h:Sd q) (r:Pr):r∈gq q↔fd q r=true:=by
 unfold gq fd;rw [dd,List.mem_append,Bool.or_eq_true,Bool.not_eq_true',bN];constructor
 ·rintro (h1|h1)
  ·obtain ⟨x,hx,rfl⟩:=List.mem_map.1 h1
   right
   rw [jM h.hv.asc hx];exact bN.1 (eW (h.hv.fit x hx).2)
  ·left
   have h2:r∈cK (q.convs++q.waits):=h1;obtain ⟨x,hx,rfl⟩:=List.mem_map.1 h2;unfold aj;rw [yn h.nd hx];rfl
 ·rintro (h1|h1)
  ·right
   obtain ⟨a,ha⟩:=Option.isSome_iff_exists.1 h1;obtain ⟨x,hx,hp,_⟩:=JG ha;show r∈cK (q.convs++q.waits);exact List.mem_map.2 ⟨x,hx,hp⟩
  ·left
   obtain ⟨x,hx,hp,_⟩:=mU h1;exact List.mem_map.2 ⟨x,hx,hp⟩
theorem iI:∀{l:List Qu} {r:Pr},r∈lC l↔∃q∈l,r∈gq q
 | [],r=>by simp [lC]
 | q :: l,r=>by
  show r∈gq q++lC l↔_;rw [List.mem_append,iI];simp
theorem Eff.has {q q':Qu} {p:Pr} (h:Eff q q' p) (hq:fd q' p=true):fd q p=true:=by
 unfold fd at *
 rcases h with ⟨h1,h2⟩|⟨a,h1,_,_⟩
 ·rw [h1,h2] at hq;exact hq
 ·rw [h1];rfl
def di (t:List Qu):Bool:=gu t && decide ((aO t).length<=8)
def ef (t:List Qu):List ByteArray:=t.map (·.res.name)
theorem yq:∀{l:List Qu} {p:Option ByteArray},mN p l=true->∀q∈l,ay q=true
 | [],_,_,q,hq=>absurd hq (by simp)
 | x :: l,p,h,q,hq=>by
  rw [eM] at h;simp only [qBa] at h;rcases List.mem_cons.1 hq with rfl|hq
  ·exact h.1.1
  ·exact yq h.2 q hq
theorem DU {q':Qu} (hs:ay q'=true):∀{l:List Qu} {p:Option ByteArray} {i:Nat} (h:i<l.length),mN p l=true->q'.res.name=l[i].res.name->mN p (l.set i q')=true
 | [],_,_,h,_,_=>absurd h (by simp)
 | x :: l,p,0,h,hv,hn=>by
  rw [eM] at hv;simp only [qBa] at hv;have hn':q'.res.name=x.res.name:=hn;rw [List.set_cons_zero,eM,hn'];simp only [qBa];exact ⟨⟨hs,hv.1.2⟩,hv.2⟩
 | x :: l,p,i+1,h,hv,hn=>by
  rw [eM] at hv;simp only [qBa] at hv;rw [List.set_cons_succ,eM];simp only [qBa];exact ⟨hv.1,DU hs (by simpa using h) hv.2 (by simpa using hn)⟩
def jN (a b:ByteArray):Bool:=Op.bytesLess a.toList b.toList
theorem ij {a b c:ByteArray} (h1:jN a b=true) (h2:jN b c=true):jN a c=true:=by
 unfold jN at *
 rw [bytesLess_eq,decide_eq_true_eq] at *
 exact List.lt_trans h1 h2
theorem fD (a:ByteArray):jN a a=false:=by
 unfold jN;rw [bytesLess_eq,decide_eq_false_iff_not];exact List.lt_irrefl _
theorem mY:∀{l:List Qu} {p:Option ByteArray},mN p l=true->(ef l).Pairwise (fun a b=>jN a b=true)/\∀m,p=some m->∀n∈ef l,jN m n=true
 | [],_,_=>⟨by simp [ef],fun _ _ n hn=>absurd hn (by simp [ef])⟩
 | x :: l,p,h=>by
  rw [eM] at h;simp only [qBa] at h;obtain ⟨h1,h2⟩:=mY h.2;refine ⟨List.pairwise_cons.2 ⟨fun n hn=>h2 _ rfl n hn,h1⟩,?_⟩;intro m hm n hn;subst hm;have h3:jN m x.res.name=true:=h.1.2;rcases List.mem_cons.1 (show n∈x.res.name :: ef l from hn) with rfl|hn
  ·exact h3
  ·exact ij h3 (h2 _ rfl n hn)
theorem bi {t:List Qu} (h:di t=true):t.length<=8/\mN none t=true/\(aO t).length<=8:=by
 unfold di gu at h;simp only [qBa,decide_eq_true_eq] at h;exact ⟨h.1.1,h.1.2,h.2⟩
theorem mZ {t:List Qu} (h:di t=true):(ef t).Nodup:=by
 have:=(mY (bi h).2.1).1;exact this.imp fun {a b} hab e=>by rw [e,fD] at hab;cases hab
theorem cP {t:List Qu} (h:di t=true) {q:Qu} (hq:q∈t):ay q=true:=yq (bi h).2.1 q hq
theorem yr {a b:ByteArray}:(a.toList == b.toList)=true↔a=b:=by
 rw [beq_iff_eq];exact ⟨toList_inj,fun h=>by rw [h]⟩
theorem DV:∀{t:List Qu} {i k:Nat} (h:i<t.length),(ef t).Nodup->bG t[i].res.name k t=((k+i:Nat):Int)
 | [],_,_,h,_=>absurd h (by simp)
 | q :: t,0,k,h,_=>by
  rw [gt];have:(q.res.name.toList == ((q :: t)[0]).res.name.toList)=true:=by simp
  rw [this];simp
 | q :: t,i+1,k,h,hn=>by
  have hn':(q.res.name :: ef t).Nodup:=hn;rw [List.nodup_cons] at hn';rw [gt];have hi:i<t.length:=by simpa using h
  have hne:(q.res.name.toList == ((q :: t)[i+1]).res.name.toList)=false:=by
   cases hc:(q.res.name.toList == ((q :: t)[i+1]).res.name.toList) with
   | false=>rfl
   | true =>
    have e:=yr.1 hc;exact absurd (e▸List.mem_map.2 ⟨t[i],List.getElem_mem hi,rfl⟩) hn'.1
  rw [hne,qCf];have:=DV (k:=k+1) hi hn'.2;exact Wb
theorem lO:∀{t:List Qu} {n:ByteArray} {k:Nat},0<=bG n k t->∃i,∃h:i<t.length,bG n k t=((k+i:Nat):Int)/\t[i].res.name=n
 | [],n,k,h=>by simp [bG] at h
 | q :: t,n,k,h=>by
  rw [gt] at h ⊢;cases hc:(q.res.name.toList == n.toList) with
  | true=>exact ⟨0,by simp,by simp,yr.1 hc⟩
  | false =>
   rw [hc,qCf] at h;rw [qCf];obtain ⟨i,hi,h1,h2⟩:=lO h;exact We
structure TOut (t t':List Qu) (i:Nat) (p:Pr):Prop where
 lt:i<t.length
 set:∃q,t'=t.set i q/\Out t[i] q p
theorem TOut.at {t t':List Qu} {i:Nat} {p:Pr} (h:TOut t t' i p):∃q,t'[i]? = some q/\Out (t[i]'h.lt) q p:=by
 obtain ⟨q,rfl,ho⟩:=h.set;exact ⟨q,by rw [List.getElem?_set_self h.lt],ho⟩
theorem TOut.other {t t':List Qu} {i:Nat} {p:Pr} (h:TOut t t' i p) {j:Nat} (hj:j≠i):t'[j]? = t[j]?:=by
 obtain ⟨q,rfl,_⟩:=h.set;rw [List.getElem?_set_ne (Ne.symm hj)]
theorem TOut.names {t t':List Qu} {i:Nat} {p:Pr} (h:TOut t t' i p):ef t'=ef t:=by
 obtain ⟨q,rfl,ho⟩:=h.set;unfold ef;rw [List.map_set];have e:q.res.name=(t[i]'h.lt).res.name:=by rw [ho.res]
 rw [e];apply List.ext_getElem
 ·simp
 ·intro j h1 h2;rw [List.getElem_set];split
  ·next hij=>subst hij;simp
  ·rfl
theorem AN {t t':List Qu} {i:Nat} {p:Pr} (hv:di t=true) (h:TOut t t' i p):∀r∈aO t',r=p\/r∈aO t:=by
 obtain ⟨q,rfl,ho⟩:=h.set;intro r hr;unfold aO at hr ⊢;rw [dd,iI] at hr ⊢;obtain ⟨x,hx,hrx⟩:=hr;rcases List.mem_or_eq_of_mem_set hx with hx|rfl
 ·exact .inr ⟨x,hx,hrx⟩
 ·by_cases hrp:r=p
  ·exact .inl hrp
  ·right
   have h1:=(eX (aP ho.ok) r).1 hrx;have hm:t[i]'h.lt∈t:=List.getElem_mem h.lt;exact ⟨_,hm,(eX (aP (cP hv hm)) r).2 ((ho.eff r hrp).has h1)⟩
theorem gQ (t:List Qu):(aO t).Nodup:=by
 unfold List.Nodup aO;exact (kt (lC t)).imp fun {a b} (hab:g7 a b) (e:a=b)=>by rw [e] at hab;exact co b hab
theorem TOut.valid {t t':List Qu} {i:Nat} {p:Pr} (hv:di t=true) (h:TOut t t' i p) (hp:(aO t).length<=7\/p∈aO t\/p ∉ aO t'):di t'=true:=by
 have hsub:=AN hv h;obtain ⟨q,rfl,ho⟩:=h.set;obtain ⟨h1,h2,h3⟩:=bi hv;unfold di gu;simp only [qBa,decide_eq_true_eq];refine ⟨⟨by simpa using h1,DU ho.ok h.lt h2 (by rw [ho.res])⟩,?_⟩;rcases hp with hp|hp|hp
 ·have h4:=jy (m:=p :: aO t) (gQ (t.set i q)) fun r hr=>by
   rcases hsub r hr with e|e
   ·simp [e]
   ·simp [e]
  rw [List.length_cons] at h4;omega
 ·have h4:=jy (m:=aO t) (gQ (t.set i q)) fun r hr=>by
   rcases hsub r hr with e|e
   ·rw [e];exact hp
   ·exact e
  omega
 ·have h4:=jy (m:=aO t) (gQ (t.set i q)) fun r hr=>by
   rcases hsub r hr with e|e
   ·exact absurd (e▸hr) hp
   ·exact e
  omega
theorem yt {r:Rs} {a:Am} (h:aS r a=true):cn r ⟨0,0⟩ a=a:=by
 have hs:br r=true:=by unfold aS at h;rw [qBa] at h;exact h.1
 have hp:=dw h;have hz:=eW h;have p0:bQ r ⟨0,0⟩=true:=by unfold bQ aR;rw [hs];rfl
 have z0:aR ⟨0,0⟩=true:=rfl;have c1:bq r ⟨0,0⟩ a=false:=by unfold bq;rw [p0,hp,hz,z0];simp
 have c2:bq r a ⟨0,0⟩=true:=by unfold bq;rw [p0,hp,z0];simp
 unfold cn;rw [p0,hp,c1,c2];rfl
theorem B8 {q:Qu} {p:Pr} {a:Am} {prio:Int} (h:(bL q p a prio).2.2=0):ay q=true/\jW p=true/\(0<=prio/\prio<=7)/\aS q.res a=true/\aj q p=none/\
    ((bq q.res (ah q.holds p) a=true/\bL q p a prio=iY (q,[]))\/
     (bq q.res (ah q.holds p) a=false/\ah q.holds p≠⟨0,0⟩/\bL q p a prio=iY (dB { q with convs:=q.convs++[⟨p,cn q.res (ah q.holds p) a,0,0⟩] }))\/
     (bq q.res (ah q.holds p) a=false/\ah q.holds p=⟨0,0⟩/\q.holds.length+q.waits.length<8/\uO ⟨p,a,prio,0⟩=true/\bL q p a prio=iY (dB { q with waits:=jH q.waits ⟨p,a,prio,0⟩ }))):=by
  unfold bL at h ⊢;cases hS:ay q with
  | false=>rw [hS] at h;simp [bR] at h
  | true =>
    have hd:=aP hS;rw [hS] at h;simp only [Bool.not_true,qCf] at h ⊢;cases hA:jW p && decide (0<=prio) && decide (prio<=7) with
    | false=>rw [hA] at h;simp [bR] at h
    | true =>
      rw [hA] at h;simp only [Bool.not_true,qCf] at h ⊢;simp only [qBa,decide_eq_true_eq] at hA;cases hF:aS q.res a with
      | false=>rw [hF] at h;simp [bR] at h
      | true =>
        rw [hF] at h;simp only [Bool.not_true,qCf] at h ⊢;cases hW:aj q p with
        | some b=>rw [hW] at h;simp [bR] at h
        | none =>
          rw [hW] at h;simp only [Option.isSome_none,qCf] at h ⊢;refine ⟨trivial,hA.1.1,⟨hA.1.2,hA.2⟩,trivial,trivial,?_⟩;cases hC:bq q.res (ah q.holds p) a with
          | true=>exact .inl ⟨rfl,rfl⟩
          | false =>
            rw [hC] at h;simp only [qCf] at h ⊢
            right
            cases hZ:aR (ah q.holds p) with
            | false=>exact .inl ⟨trivial,bN.1 hZ,rfl⟩
            | true =>
              rw [hZ] at h;simp only [Bool.not_true,qCf] at h ⊢
              right
              by_cases hl:8<=q.holds.length+q.waits.length
              · rw [qDt hl] at h;simp [bR] at h
              · rw [qDf hl] at h ⊢
                simp only [qCf] at h ⊢;obtain ⟨e1,hv⟩:=nZ hd hW hF hA.1.1 ⟨hA.1.2,hA.2⟩ (by omega);rw [e1];simp only [decide_true,Bool.not_true,qCf];exact ⟨by trivial,of_decide_eq_true hZ,by omega,hv,by trivial⟩
theorem DX {q:Qu} {p:Pr} {a:Am} {prio:Int} (hS:ay q=true) (hp:jW p=true) (hr:0<=prio/\prio<=7) (hF:aS q.res a=true) (hW:aj q p=none) (hl:ah q.holds p≠⟨0,0⟩\/q.holds.length+q.waits.length<8):(bL q p a prio).2.2=0:=by
 have hd:=aP hS;unfold bL;rw [hS,hp,hF,hW,qDt hr.1,qDt hr.2];simp only [Bool.not_true,Bool.and_self,qCf,Option.isSome_none];cases hC:bq q.res (ah q.holds p) a with
 | true=>rfl
 | false =>
  simp only [qCf];cases hZ:aR (ah q.holds p) with
  | false=>rfl
  | true =>
   have h0:ah q.holds p=⟨0,0⟩:=of_decide_eq_true hZ;have hl':q.holds.length+q.waits.length<8:=by
    rcases hl with hl|hl
    ·exact absurd h0 hl
    ·exact hl
   obtain ⟨e1,_⟩:=nZ hd hW hF hp hr hl';rw [qDf (show ¬8<=q.holds.length+q.waits.length by omega),e1];rfl
structure ClOut (q q':Qu) (p:Pr) (a:Am) (prio:Int):Prop where
 out:Out q q' p
 own:(bq q.res (ah q.holds p) a=true/\q'=q)\/(bq q.res (ah q.holds p) a=false/\((ah q'.holds p=ah q.holds p/\aj q' p=some (cn q.res (ah q.holds p) a))\/(ah q'.holds p=cn q.res (ah q.holds p) a/\aj q' p=none)))
 pr:∀x∈q'.waits,x.proc=p->x.prio=prio
theorem Gd {q:Qu} {p:Pr} {a:Am} {prio:Int} (h:(bL q p a prio).2.2=0):ClOut q (bL q p a prio).1 p a prio:=by
 have ho:=yp h;obtain ⟨hS,hvp,hr,hF,hW,hc⟩:=B8 h;have hd:=aP hS;have hno:=fh.1 hW;rcases hc with ⟨hC,e⟩|⟨hC,h0,e⟩|⟨hC,h0,hl,hv,e⟩
 ·rw [e] at ho ⊢;exact ⟨ho,.inl ⟨hC,rfl⟩,fun x hx hp=>absurd hp (hno x (by have h:x∈q.waits:=hx;simp [h]))⟩
 ·rw [e] at ho ⊢;have hs:=hd.cons h0 hW hF hC;refine ⟨ho,.inr ⟨hC,?_⟩,fun x hx hp=>?_⟩
  ·have hw:aj { q with convs:=q.convs++[⟨p,cn q.res (ah q.holds p) a,0,0⟩] } p=some (cn q.res (ah q.holds p) a):=by
    unfold aj;have hm:(⟨p,cn q.res (ah q.holds p) a,0,0⟩:Wt)∈q.convs++[⟨p,cn q.res (ah q.holds p) a,0,0⟩]++q.waits:=by simp
    exact yn (x:=⟨p,cn q.res (ah q.holds p) a,0,0⟩) hs.nd hm
   rcases xn hs p with ⟨h1,h2⟩|⟨b,h1,h2,h3⟩
   ·exact .inl ⟨h1,h2.trans hw⟩
   ·rw [hw] at h1;injection h1 with h1;exact .inr ⟨h2.trans h1.symm,h3⟩
  ·have h1:=sr hx;exact absurd hp (hno x (by have h:x∈q.waits:=h1;simp [h]))
 ·rw [e] at ho ⊢;have hs:=hd.ins (w:=⟨p,a,prio,0⟩) h0 hW hF hv hl;have hJ:cn q.res (ah q.holds p) a=a:=by rw [h0];exact yt hF
  refine ⟨ho,.inr ⟨hC,?_⟩,fun x hx hp=>?_⟩
  ·rw [hJ];have hw:aj { q with waits:=jH q.waits ⟨p,a,prio,0⟩ } p=some a:=by
    unfold aj;have hm:(⟨p,a,prio,0⟩:Wt)∈q.convs++jH q.waits ⟨p,a,prio,0⟩:=by
     rw [List.mem_append]
     right
     unfold jH;simp
    exact yn (x:=⟨p,a,prio,0⟩) hs.nd hm
   rcases xn hs p with ⟨h1,h2⟩|⟨b,h1,h2,h3⟩
   ·exact .inl ⟨h1,h2.trans hw⟩
   ·rw [hw] at h1;injection h1 with h1;exact .inr ⟨h2.trans h1.symm,h3⟩
  ·rcases ym (sr hx) with rfl|h1|⟨y,h1,rfl,_,_⟩
   ·rfl
   ·exact absurd hp (hno x (by simp [h1]))
   ·exact absurd (show y.proc=p from hp) (hno y (by simp [h1]))
theorem Ag {q:Qu} {p:Pr} (h:(bB q p).2.2=0):ay q=true/\(aj q p).isSome=true/\bB q p=iY (dB { q with convs:=cq q.convs p,waits:=cq q.waits p }):=by
 unfold bB at h ⊢;cases hS:ay q with
 | false=>rw [hS] at h;simp [bR] at h
 | true =>
  rw [hS] at h;simp only [Bool.not_true,qCf] at h ⊢;cases hW:(aj q p).isSome with
  | false=>rw [hW] at h;simp [bR] at h
  | true=>exact ⟨by trivial,by trivial,by trivial⟩
theorem B9 {q:Qu} {p:Pr} (hS:ay q=true) (hW:(aj q p).isSome=true):(bB q p).2.2=0:=by unfold bB;rw [hS,hW];rfl
theorem lP {r:Qu} {p:Pr} (hs:Sd r) (hw:aj r p=none):ah (dB r).1.holds p=ah r.holds p/\aj (dB r).1 p=none:=by
 rcases xn hs p with ⟨h1,h2⟩|⟨b,h1,_⟩
 ·exact ⟨h1,h2.trans hw⟩
 ·rw [hw] at h1;cases h1
theorem DY {q:Qu} {p:Pr} (h:(bB q p).2.2=0):Out q (bB q p).1 p/\ah (bB q p).1.holds p=ah q.holds p/\aj (bB q p).1 p=none:=by
 have ho:=vb h;obtain ⟨hS,_,e⟩:=Ag h;have hd:=aP hS;rw [e] at ho ⊢;exact ⟨ho,lP (hd.drop p) (by rw [lN,if_pos rfl])⟩
theorem Ca {q:Qu} {p:Pr} {a:Am} (h:(bE q p a).2.2=0):ay q=true/\ah q.holds p≠⟨0,0⟩/\aj q p=none/\bq q.res (ah q.holds p) a=true/\((ah q.holds p=a/\bE q p a=iY (q,[]))\/(ah q.holds p≠a/\bE q p a=iY (dB { q with holds:=cw q.holds p a }))):=by
 unfold bE at h ⊢;cases hS:ay q with
 | false=>rw [hS] at h;simp [bR] at h
 | true =>
  rw [hS] at h;simp only [Bool.not_true,qCf] at h ⊢;cases hZ:aR (ah q.holds p) with
  | true=>rw [hZ] at h;simp [bR] at h
  | false =>
   rw [hZ] at h;simp only [qCf] at h ⊢;cases hW:aj q p with
   | some b=>rw [hW] at h;simp [bR] at h
   | none =>
    rw [hW] at h;simp only [Option.isSome_none,qCf] at h ⊢;cases hC:bq q.res (ah q.holds p) a with
    | false=>rw [hC] at h;simp [bR] at h
    | true =>
     simp only [Bool.not_true,qCf];refine ⟨trivial,bN.1 hZ,trivial,trivial,?_⟩;by_cases hE:ah q.holds p=a
     ·rw [qDt hE];exact .inl ⟨hE,rfl⟩
     ·rw [qDf hE];exact .inr ⟨hE,rfl⟩
theorem DZ {q:Qu} {p:Pr} {a:Am} (hS:ay q=true) (h0:ah q.holds p≠⟨0,0⟩) (hW:aj q p=none) (hC:bq q.res (ah q.holds p) a=true):(bE q p a).2.2=0:=by
 unfold bE;rw [hS,bN.2 h0,hW,hC];simp only [Bool.not_true,qCf,Option.isSome_none];cases decide (ah q.holds p=a) <;> rfl
theorem Ge {q:Qu} {p:Pr} {a:Am} (h:(bE q p a).2.2=0):Out q (bE q p a).1 p/\ah (bE q p a).1.holds p=a/\aj (bE q p a).1 p=none:=by
 have ho:=oS h;obtain ⟨hS,h0,hW,hC,hc⟩:=Ca h;have hd:=aP hS;rcases hc with ⟨hE,e⟩|⟨_,e⟩
 ·rw [e] at ho ⊢;exact ⟨ho,hE,hW⟩
 ·rw [e] at ho ⊢;have h1:=lP (hd.lower hW h0 hC) (p:=p) hW;refine ⟨ho,h1.1.trans ?_,h1.2⟩;show ah (cw q.holds p a) p=a;rw [gf,if_pos rfl]
theorem Ah {q:Qu} {p:Pr} (h:(aU q p).2.2=0):ay q=true/\fd q p=true/\aU q p=iY (dB { q with holds:=cw q.holds p ⟨0,0⟩,convs:=cq q.convs p,waits:=cq q.waits p }):=by
 unfold aU at h ⊢;cases hS:ay q with
 | false=>rw [hS] at h;simp [bR] at h
 | true =>
  rw [hS] at h;simp only [Bool.not_true,qCf] at h ⊢;cases hH:fd q p with
  | false=>rw [hH] at h;simp [bR] at h
  | true=>exact ⟨by trivial,by trivial,by trivial⟩
theorem Cb {q:Qu} {p:Pr} (hS:ay q=true) (hH:fd q p=true):(aU q p).2.2=0:=by unfold aU;rw [hS,hH];rfl
theorem D4 {q:Qu} {p:Pr} (h:(aU q p).2.2=0):Out q (aU q p).1 p/\ah (aU q p).1.holds p=⟨0,0⟩/\aj (aU q p).1 p=none:=by
 have ho:=vc h;obtain ⟨hS,_,e⟩:=Ah h;have hd:=aP hS;rw [e] at ho ⊢;have hw:aj { q with holds:=cw q.holds p ⟨0,0⟩,convs:=cq q.convs p,waits:=cq q.waits p } p=none:=by
  have:=lN q p p;rw [if_pos rfl] at this;exact this
 have h1:=lP (hd.gone p) hw;refine ⟨ho,h1.1.trans ?_,h1.2⟩;show ah (cw q.holds p ⟨0,0⟩) p=_;rw [gf,if_pos rfl]
structure Ev where
 kind:Int
 proc:Pr
 name:ByteArray
 am:Am
deriving DecidableEq
def aJ (n:ByteArray) (l:List Ho):List Ev:=l.map fun h=>⟨1,h.proc,n,h.am⟩
def dE (e:Int):List Qu×List Ev×Int:=([],[],e)
def gR (t:List Qu) (n:ByteArray):Nat:=(bG n 0 t).toNat
def bt (t:List Qu) (p:Pr) (a:Tm) (prio:Int):List Qu×List Ev×Int :=
 bif !di t then dE 2 else bif decide (bG a.name 0 t<0) then dE 10 else
 bif decide ((aO t).length=8) && !decide (p∈aO t) then dE 4 else
 bif !decide ((bL (t.getD (gR t a.name) jj) p a.am prio).2.2=0) then dE (bL (t.getD (gR t a.name) jj) p a.am prio).2.2 else
 (t.set (gR t a.name) (bL (t.getD (gR t a.name) jj) p a.am prio).1,aJ a.name (bL (t.getD (gR t a.name) jj) p a.am prio).2.1,0)
def bv (t:List Qu) (p:Pr) (n:ByteArray):List Qu×List Ev×Int :=
 bif !di t then dE 2 else bif decide (bG n 0 t<0) then dE 10 else
 bif !decide ((bB (t.getD (gR t n) jj) p).2.2=0) then dE (bB (t.getD (gR t n) jj) p).2.2 else
 (t.set (gR t n) (bB (t.getD (gR t n) jj) p).1,aJ n (bB (t.getD (gR t n) jj) p).2.1,0)
def bD (t:List Qu) (p:Pr) (a:Tm):List Qu×List Ev×Int :=
 bif !di t then dE 2 else bif decide (bG a.name 0 t<0) then dE 10 else
 bif !decide ((bE (t.getD (gR t a.name) jj) p a.am).2.2=0) then dE (bE (t.getD (gR t a.name) jj) p a.am).2.2 else
 (t.set (gR t a.name) (bE (t.getD (gR t a.name) jj) p a.am).1,(bif decide (ah (t.getD (gR t a.name) jj).holds p=a.am) then [] else [⟨3,p,a.name,a.am⟩])++aJ a.name (bE (t.getD (gR t a.name) jj) p a.am).2.1,0)
def aM (p:Pr):List Qu->List Qu×List Ev
 | []=>([],[])
 | q :: l=>bif !fd q p then (q :: (aM p l).1,(aM p l).2) else
  ((aU q p).1 :: (aM p l).1,(bif aR (ah q.holds p) then [] else [⟨3,p,q.res.name,⟨0,0⟩⟩])++aJ (aU q p).1.res.name (aU q p).2.1++(aM p l).2)
def bS (t:List Qu) (p:Pr):List Qu×List Ev:=bif !di t then ([],[]) else aM p t
structure En where
 name:ByteArray
 before:Am
 after:Am
deriving DecidableEq
structure Sv where
 label:Int
 at_:Int
deriving DecidableEq
def bC (a b:ByteArray):Bool:=a.toList == b.toList
theorem bj {a b:ByteArray}:bC a b=true↔a=b:=yr
theorem cd {a b:ByteArray}:bC a b=false↔a≠b:=by
 rw [<-Bool.not_eq_true,bj]
def eF (n:ByteArray):Am->List En->Am
 | a,[]=>a
 | a,e :: l=>eF n (bif bC e.name n then e.after else a) l
def aC (l:List En) (n:ByteArray):Am:=eF n ⟨0,0⟩ l
theorem oT (n:ByteArray):∀(l m:List En) (a:Am),eF n a (l++m)=eF n (eF n a l) m
 | [],_,_=>rfl
 | e :: l,m,a=>oT n l m _
theorem lQ (l:List En) (e:En) (n:ByteArray):aC (l++[e]) n=bif bC e.name n then e.after else aC l n:=by
 unfold aC;rw [oT];rfl
def dX (a b:Am):Bool:=cr b && !decide (a=b) && (aR a || cr a && (bif !decide (a.mode=0) then es b.mode a.mode else decide (a.units<b.units)))
def ib (pre:List En):List En->Bool
 | []=>true
 | e :: l=>dh e.name.toList && decide (e.before=aC pre e.name) && dX e.before e.after && ib (pre++[e]) l
def eY (n:ByteArray):List ByteArray->Bool
 | []=>false
 | m :: l=>bC m n || eY n l
theorem iJ {n:ByteArray}:∀{l:List ByteArray},eY n l=true↔n∈l
 | []=>by simp [eY]
 | m :: l=>by
  show (bC m n || eY n l)=true↔_;rw [Bool.or_eq_true,bj,iJ,List.mem_cons];exact or_congr_left ⟨Eq.symm,Eq.symm⟩
def ja (n:ByteArray):List ByteArray->List ByteArray
 | []=>[n]
 | m :: l=>bif jN n m then n :: m :: l else m :: ja n l
theorem pN {n x:ByteArray}:∀{l:List ByteArray},x∈ja n l↔x=n\/x∈l
 | []=>by simp [ja]
 | m :: l=>by
  show x∈(bif jN n m then n :: m :: l else m :: ja n l)↔_;cases jN n m with
  | true=>simp
  | false =>
   rw [qCf,List.mem_cons,pN,List.mem_cons];constructor
   ·rintro (h|h|h) <;> simp [h]
   ·rintro (h|h|h) <;> simp [h]
def ew:List ByteArray->List En->List ByteArray
 | acc,[]=>acc
 | acc,e :: l=>ew (bif eY e.name acc then acc else ja e.name acc) l
def cg (l:List En):List ByteArray:=ew [] l
theorem vd {x:ByteArray}:∀{l:List En} {acc:List ByteArray},x∈ew acc l↔x∈acc\/∃e∈l,e.name=x
 | [],acc=>by simp [ew]
 | e :: l,acc=>by
  show x∈ew _ l↔_;rw [vd];have h:x∈(bif eY e.name acc then acc else ja e.name acc)↔x∈acc\/e.name=x:=by
   cases hh:eY e.name acc with
   | true =>
    rw [qCt];constructor
    ·exact .inl
    ·rintro (h|h)
     ·exact h
     ·exact h▸iJ.1 hh
   | false =>
    rw [qCf,pN];constructor
    ·rintro (h|h)
     ·exact .inr h.symm
     ·exact .inl h
    ·rintro (h|h)
     ·exact .inr h
     ·exact .inl h.symm
  rw [h];constructor
  ·rintro ((h|h)|⟨f,h1,h2⟩)
   ·exact .inl h
   ·exact .inr ⟨e,by simp,h⟩
   ·exact .inr ⟨f,by simp [h1],h2⟩
  ·rintro (h|⟨f,h1,h2⟩)
   ·exact .inl (.inl h)
   ·rcases List.mem_cons.1 h1 with rfl|h1
    ·exact .inl (.inr h2)
    ·exact .inr ⟨f,h1,h2⟩
theorem dY {l:List En} {x:ByteArray}:x∈cg l↔∃e∈l,e.name=x:=by unfold cg;rw [vd];simp
def oU (l:List ByteArray):Prop:=l.Pairwise fun a b=>jN a b=true
theorem pO {a b:ByteArray} (h1:jN a b=false) (h2:a≠b):jN b a=true:=by
 unfold jN at *
 rw [bytesLess_eq,decide_eq_false_iff_not] at h1;rw [bytesLess_eq,decide_eq_true_eq];rcases Std.lt_trichotomy a.toList b.toList with h|h|h
 ·exact absurd h h1
 ·exact absurd (toList_inj h) h2
 ·exact h
theorem pP {n:ByteArray}:∀{l:List ByteArray},oU l->n ∉ l->oU (ja n l)
 | [],_,_=>by simp [ja,oU]
 | m :: l,h,hn=>by
  obtain ⟨h1,h2⟩:=List.pairwise_cons.1 h;show oU (bif jN n m then n :: m :: l else m :: ja n l);cases hc:jN n m with
  | true =>
   refine List.pairwise_cons.2 ⟨fun x hx=>?_,h⟩;rcases List.mem_cons.1 hx with rfl|hx
   ·exact hc
   ·exact ij hc (h1 x hx)
  | false =>
   have hm:jN m n=true:=pO hc (fun e=>hn (by simp [e]));refine List.pairwise_cons.2 ⟨fun x hx=>?_,pP h2 (fun hx=>hn (by simp [hx]))⟩;rcases pN.1 hx with rfl|hx
   ·exact hm
   ·exact h1 x hx
theorem ve:∀{l:List En} {acc:List ByteArray},oU acc->oU (ew acc l)
 | [],_,h=>h
 | e :: l,acc,h=>by
  refine ve (l:=l) ?_;cases hh:eY e.name acc with
  | true=>exact h
  | false=>exact pP h fun hm=>by rw [iJ.2 hm] at hh;cases hh
theorem gx (l:List En):oU (cg l):=ve (by simp [oU])
def bb (n:Int):Nat->List Sv->Int
 | _,[]=>-1
 | k,s :: l=>bif decide (s.label=n) then (k:Int) else bb n (k+1) l
def ou (all:List Sv) (n:Int):Nat->Int->List Sv->Bool
 | _,_,[]=>true
 | k,at_,s :: l=>decide (1<=s.label) && decide (s.label<=99) && decide (0<=s.at_) && decide (s.at_<=n) && decide (at_<=s.at_) && decide (bb s.label 0 all=(k:Int)) && ou all n (k+1) s.at_ l
def mx (l:List En) (s:List Sv):Bool:=decide (l.length<=72) && decide (s.length<=4) && ib [] l && decide ((cg l).length<=8) && ou s l.length 0 0 s
structure EntOk (pre:List En) (e:En):Prop where
 nm:dh e.name.toList=true
 bef:e.before=aC pre e.name
 gr:dX e.before e.after=true
def Ents (l:List En):Prop:=∀k (h:k<l.length),EntOk (l.take k) l[k]
theorem AO:∀(l pre:List En),ib pre l=true↔∀k (h:k<l.length),EntOk (pre++l.take k) l[k]
 | [],_=>by simp [ib]
 | e :: l,pre=>by
  show (dh e.name.toList && decide (e.before=aC pre e.name) && dX e.before e.after && ib (pre++[e]) l)=true↔_;simp only [qBa,decide_eq_true_eq,AO l];constructor
  ·rintro ⟨⟨⟨h1,h2⟩,h3⟩,h4⟩ k hk;cases k with
   | zero=>simpa using ⟨h1,h2,h3⟩
   | succ k =>
    have:=h4 k (by simpa using hk);simpa [List.append_assoc] using this
  ·intro h;have h0:=h 0 (by simp);simp only [List.take_zero,List.append_nil,List.getElem_cons_zero] at h0;refine ⟨⟨⟨h0.nm,h0.bef⟩,h0.gr⟩,fun k hk=>?_⟩;have:=h (k+1) (by simpa using hk);simpa [List.append_assoc] using this
theorem D5 {l:List En}:ib [] l=true↔Ents l:=by
 rw [AO];unfold Ents;simp
theorem Ents.snoc {l:List En} {e:En}:Ents (l++[e])↔Ents l/\EntOk l e:=by
 constructor
 ·intro h;refine ⟨fun k hk=>?_,?_⟩
  ·have h1:=h k (by simp;omega);rw [List.take_append_of_le_length (by omega),List.getElem_append_left hk] at h1;exact h1
  ·have h1:=h l.length (by simp);simpa using h1
 ·rintro ⟨h1,h2⟩ k hk;by_cases hl:k<l.length
  ·rw [List.take_append_of_le_length (by omega),List.getElem_append_left hl];exact h1 k hl
  ·have:k=l.length:=by simp at hk;omega
   subst this;simpa using h2
theorem Ents.take {l:List En} (h:Ents l) (n:Nat):Ents (l.take n):=by
 intro k hk;have h1:k<l.length:=by rw [List.length_take] at hk;omega
 have h2:=h k h1;have h3:(l.take n).take k=l.take k:=by rw [List.take_take];congr 1;rw [List.length_take] at hk;omega
 rw [h3,List.getElem_take];exact h2
theorem pQ {P:List En->Prop} (h0:P []) (hs:∀l e,Ents l->EntOk l e->P l->P (l++[e])):∀l,Ents l->P l:=by
 intro l;have:∀n (l:List En),l.length=n->Ents l->P l:=by
  intro n;induction n with
  | zero=>intro l hl _;rw [List.eq_nil_of_length_eq_zero hl];exact h0
  | succ n ih =>
   intro l hl h;have hne:l≠[]:=by rintro rfl;simp at hl
   have e:=List.dropLast_concat_getLast hne;rw [<-e] at h;obtain ⟨h1,h2⟩:=Ents.snoc.1 h;rw [<-e];exact hs _ _ h1 h2 (ih _ (by rw [List.length_dropLast];omega) h1)
 exact this _ l rfl
def PE (b a:Am):Prop:=a=b\/(cr a=true/\cr b=true/\((a.mode≠0/\es b.mode a.mode=true)\/(a.mode=0/\b.mode=0/\a.units<b.units)))
theorem ez {a:Am} (h:cr a=true):(cL a.mode=true/\a.units=0)\/(a.mode=0/\1<=a.units/\a.units<=8):=by
 unfold cr at h;simp only [Bool.or_eq_true,qBa,decide_eq_true_eq] at h;rcases h with h|h
 ·exact .inl h
 ·exact .inr ⟨h.1.1,h.1.2,h.2⟩
theorem ik {m:Int}:cL m=true↔1<=m/\m<=5:=by unfold cL;simp
theorem pR {a b:Int}:es a b=true↔(1<=a/\a<=5)/\(1<=b/\b<=5)/\(a=b\/a=5\/b=1\/(a=4/\b≠5)):=by
 unfold es;simp only [qBa,Bool.or_eq_true,decide_eq_true_eq,Bool.not_eq_true',decide_eq_false_iff_not,ik];constructor
 ·rintro ⟨⟨h1,h2⟩,h3⟩;exact ⟨h1,h2,by rcases h3 with ((h|h)|h)|h <;> simp [h]⟩
 ·rintro ⟨h1,h2,h3⟩;exact ⟨⟨h1,h2⟩,by rcases h3 with h|h|h|h <;> simp [h]⟩
theorem pS {a b:Am} (h:dX a b=true):cr b=true/\a≠b/\(a=⟨0,0⟩\/(cr a=true/\PE b a)):=by
 unfold dX at h;simp only [qBa,Bool.not_eq_true',decide_eq_false_iff_not,Bool.or_eq_true] at h;obtain ⟨⟨h1,h2⟩,h3⟩:=h;refine ⟨h1,h2,?_⟩;rcases h3 with h3|⟨h3,h4⟩
 ·exact .inl (of_decide_eq_true h3)
 ·refine .inr ⟨h3,.inr ⟨h3,h1,?_⟩⟩;by_cases hm:a.mode=0
  ·rw [qDt hm,Bool.not_true,qCf,decide_eq_true_eq] at h4;refine .inr ⟨hm,?_,h4⟩;rcases ez h1 with ⟨h5,h6⟩|⟨h5,_⟩
   ·rcases ez h3 with ⟨h7,_⟩|⟨_,h7,_⟩
    ·rw [hm] at h7;exact absurd h7 (by decide)
    ·omega
   ·exact h5
  ·rw [qDf hm,Bool.not_false,qCt] at h4;exact .inl ⟨hm,h4⟩
theorem JJ {a b c:Am} (h1:PE c b) (h2:PE b a):PE c a:=by
 rcases h1 with rfl|⟨u1,u2,h1⟩
 ·exact h2
 ·rcases h2 with rfl|⟨u3,_,h2⟩
  ·exact .inr ⟨u1,u2,h1⟩
  ·refine .inr ⟨u3,u2,?_⟩;rcases h2 with ⟨h3,h4⟩|⟨h3,h4,h5⟩
   ·rcases h1 with ⟨h6,h7⟩|⟨h6,_,_⟩
    ·refine .inl ⟨h3,?_⟩;rw [pR] at h4 h7 ⊢;omega
    ·rw [pR] at h4;omega
   ·rcases h1 with ⟨h6,_⟩|⟨_,h6,h7⟩
    ·exact absurd h4 h6
    ·exact .inr ⟨h3,h6,by omega⟩
def Ly (a:Am):Int:=a.mode+a.units
theorem Lz {a b:Am} (h:dX a b=true):Ly a<Ly b/\Ly b<=8:=by
 obtain ⟨h1,h2,h3⟩:=pS h;obtain ⟨am,au⟩:=a;obtain ⟨bm,bu⟩:=b;unfold Ly;have hb:=ez h1;simp only [ik] at hb;dsimp only at *
 rcases h3 with h3|⟨h3,h4⟩
 ·injection h3 with e1 e2;subst e1;subst e2;omega
 ·have ha:=ez h3;simp only [ik] at ha;rcases h4 with h4|⟨_,_,h4⟩
  ·exact absurd h4 h2
  ·dsimp only at h4;rcases h4 with ⟨h5,h6⟩|⟨h5,h6,h7⟩
   ·rw [pR] at h6;have:¬(am=bm/\au=bu):=fun e=>h2 (by rw [e.1,e.2]);omega
   ·omega
theorem AP {l:List En} (h:Ents l) (n:ByteArray):∀k,aC (l.take k) n=⟨0,0⟩\/PE (aC l n) (aC (l.take k) n):=by
 refine pQ (P:=fun l=>∀k,aC (l.take k) n=⟨0,0⟩\/PE (aC l n) (aC (l.take k) n)) (fun k=>.inl (by simp [aC,eF])) ?_ l h;intro l e _ he ih k;by_cases hk:k<=l.length
 ·rw [List.take_append_of_le_length hk,lQ];rcases ih k with h1|h1
  ·exact .inl h1
  ·cases hn:bC e.name n with
   | false=>exact .inr h1
   | true =>
    have hnn:=bj.1 hn;subst hnn;rw [qCt];obtain ⟨_,_,h2⟩:=pS he.gr;rw [he.bef] at h2;rcases h2 with h2|⟨_,h2⟩
    ·rw [h2] at h1;rcases h1 with h1|⟨h1,h3,_⟩
     ·exact .inl h1
     ·exact absurd h3 (by decide)
    ·exact .inr (JJ h2 h1)
 ·rw [List.take_of_length_le (by simp;omega)];exact .inr (.inl rfl)
theorem D6 {l:List En} (h:Ents l) (n:ByteArray):((l.filter fun e=>bC e.name n).length:Int)<=Ly (aC l n)/\Ly (aC l n)<=8:=by
 refine pQ (P:=fun l=>((l.filter fun e=>bC e.name n).length:Int)<=Ly (aC l n)/\Ly (aC l n)<=8) ⟨by simp [aC,eF,Ly],by simp [aC,eF,Ly]⟩ ?_ l h;intro l e _ he ih;rw [lQ,List.filter_append,List.length_append];cases hn:bC e.name n with
 | false =>
  have:[e].filter (fun e=>bC e.name n)=[]:=by simp [hn]
  rw [this];simpa using ih
 | true =>
  have hnn:=bj.1 hn;subst hnn;have:[e].filter (fun x=>bC x.name e.name)=[e]:=by simp [bC]
  rw [this,qCt];have h1:=Lz he.gr;rw [he.bef] at h1;simp only [List.length_singleton];omega
theorem yu {α:Type} (p:α->Bool):∀l:List α,l.length=(l.filter p).length+(l.filter fun x=>!p x).length
 | []=>rfl
 | x :: l=>by
  have:=yu p l;rw [List.filter_cons,List.filter_cons,List.length_cons];cases p x with
  | true=>simp;omega
  | false=>simp;omega
theorem AQ:∀(ns:List ByteArray) (l:List En),(∀e∈l,e.name∈ns)->(∀n∈ns,(l.filter fun e=>bC e.name n).length<=8)->l.length<=8*ns.length
 | [],l,h,_=>by
  cases l with
  | nil=>simp
  | cons e l=>exact absurd (h e (by simp)) (by simp)
 | n :: ns,l,h,hc=>by
  have h1:=AQ ns (l.filter fun e=>!bC e.name n) (fun e he=>by
   have h2:=(List.mem_filter.1 he);rcases List.mem_cons.1 (h e h2.1) with h3|h3
   ·have:=h2.2;rw [Bool.not_eq_true',cd] at this;exact absurd h3 this
   ·exact h3) (fun m hm=>Nat.le_trans (((List.filter_sublist (p:=fun e:En=>!bC e.name n) (l:=l)).filter fun e=>bC e.name m).length_le) (hc m (by simp [hm])))
  have h2:=hc n (by simp);have h3:=yu (fun e:En=>bC e.name n) l;rw [List.length_cons];omega
theorem D7 {l:List En} (h:Ents l) (hn:(cg l).length<=8):l.length<=64:=by
 have:=AQ (cg l) l (fun e he=>dY.2 ⟨e,he,rfl⟩) (fun n _=>by have:=D6 h n;omega);omega
structure Lg where
 entries:List En
 saves:List Sv
deriving DecidableEq
def rT (g:Lg):Bool:=mx g.entries g.saves
def Lg.zero:Lg:=⟨[],[]⟩
structure Svs (s:List Sv) (n:Int):Prop where
 lab:∀x∈s,(1<=x.label/\x.label<=99)/\0<=x.at_/\x.at_<=n
 ord:s.Pairwise fun a b=>a.at_<=b.at_
 nd:(s.map (·.label)).Nodup
theorem vf {n:Int}:∀{l:List Sv} {k:Nat},(∀x∈l,x.label≠n)->bb n k l = -1
 | [],_,_=>rfl
 | x :: l,k,h=>by
  show (bif decide (x.label=n) then (k:Int) else bb n (k+1) l) = -1;rw [qDf (h x (by simp)),qCf];exact vf fun y hy=>h y (by simp [hy])
theorem jO {n:Int}:∀{l:List Sv} {k:Nat},0<=bb n k l->∃i,∃h:i<l.length,bb n k l=((k+i:Nat):Int)/\l[i].label=n
 | [],k,h=>by simp [bb] at h
 | x :: l,k,h=>by
  have e:bb n k (x :: l)=bif decide (x.label=n) then (k:Int) else bb n (k+1) l:=rfl;rw [e] at h ⊢;by_cases hx:x.label=n
  ·exact ⟨0,by simp,by rw [qDt hx];simp,hx⟩
  ·rw [qDf hx,qCf] at h ⊢;obtain ⟨i,hi,h1,h2⟩:=jO h;exact We
theorem Gf {n:Int} {l:List Sv} {k:Nat}:bb n k l<0↔∀x∈l,x.label≠n:=by
 constructor
 ·intro h x hx e;have gen:∀(l:List Sv) (k:Nat),x∈l->0<=bb n k l:=by
   intro l;induction l with
   | nil=>intro _ h;cases h
   | cons y l ih =>
    intro k h;show 0<=(bif decide (y.label=n) then (k:Int) else bb n (k+1) l);rcases List.mem_cons.1 h with rfl|h
    ·rw [qDt e,qCt];omega
    ·cases decide (y.label=n) with
     | true=>rw [qCt];omega
     | false=>exact ih (k+1) h
  have:=gen l k hx;omega
 ·intro h;rw [vf h];omega
theorem yv {n:Int}:∀(pre:List Sv) (k:Nat) (x:Sv) (l:List Sv),x.label=n->(bb n k (pre++x :: l)=((k+pre.length:Nat):Int)↔∀y∈pre,y.label≠n)
 | [],k,x,l,h=>by
  have:bb n k (x :: l)=bif decide (x.label=n) then (k:Int) else bb n (k+1) l:=rfl;simp [this,h]
 | y :: pre,k,x,l,h=>by
  have e:bb n k ((y :: pre)++x :: l)=bif decide (y.label=n) then (k:Int) else bb n (k+1) (pre++x :: l):=rfl;rw [e,List.length_cons];by_cases hy:y.label=n
  ·rw [qDt hy,qCt];constructor
   ·intro h;omega
   ·intro h2;exact absurd hy (h2 y (by simp))
  ·rw [qDf hy,qCf];have ih:=yv pre (k+1) x l h;have e1:((k+(pre.length+1):Nat):Int)=((k+1+pre.length:Nat):Int):=by omega
   rw [e1,ih];constructor
   ·intro h2 z hz;rcases List.mem_cons.1 hz with rfl|hz
    ·exact hy
    ·exact h2 z hz
   ·intro h2 z hz;exact h2 z (by simp [hz])
theorem yw (n:Int):∀(l pre:List Sv) (a:Int),0<=a->(pre.map (·.label)).Nodup->(ou (pre++l) n pre.length a l=true↔(∀x∈l,(1<=x.label/\x.label<=99)/\0<=x.at_/\x.at_<=n)/\(l.Pairwise fun x y=>x.at_<=y.at_)/\(∀x∈l,a<=x.at_)/\((pre++l).map (·.label)).Nodup)
 | [],pre,a,_,hp=>by
  simpa [ou] using hp
 | x :: l,pre,a,ha,hp=>by
  show (decide (1<=x.label) && decide (x.label<=99) && decide (0<=x.at_) && decide (x.at_<=n) && decide (a<=x.at_) && decide (bb x.label 0 (pre++x :: l)=(pre.length:Int)) && ou (pre++x :: l) n (pre.length+1) x.at_ l)=true↔_;simp only [qBa,decide_eq_true_eq];have hf:bb x.label 0 (pre++x :: l)=(pre.length:Int)↔∀y∈pre,y.label≠x.label:=by
   have:=yv pre 0 x l rfl
   rwa [Nat.zero_add] at this
  have hpx:((pre++[x]).map (·.label)).Nodup↔∀y∈pre,y.label≠x.label:=by
   rw [List.map_append,List.nodup_append];constructor
   ·rintro ⟨_,_,h⟩ y hy;exact h y.label (List.mem_map.2 ⟨y,hy,rfl⟩) x.label (by simp)
   ·intro h;refine ⟨hp,by simp,?_⟩;intro u hu v hv;obtain ⟨y,hy,rfl⟩:=List.mem_map.1 hu;simp at hv;subst hv;exact h y hy
  have e1:pre++x :: l=(pre++[x])++l:=by simp
  have e2:pre.length+1=(pre++[x]).length:=by simp
  rw [hf];constructor
  ·rintro ⟨⟨⟨⟨⟨⟨h1,h2⟩,h3⟩,h4⟩,h5⟩,h6⟩,h7⟩;rw [e1,e2,yw n l (pre++[x]) x.at_ h3 (hpx.2 h6)] at h7;obtain ⟨k1,k2,k3,k4⟩:=h7;refine ⟨?_,List.pairwise_cons.2 ⟨k3,k2⟩,?_,by rw [e1];exact k4⟩
   ·intro y hy;rcases List.mem_cons.1 hy with rfl|hy
    ·exact ⟨⟨h1,h2⟩,h3,h4⟩
    ·exact k1 y hy
   ·intro y hy;rcases List.mem_cons.1 hy with rfl|hy
    ·exact h5
    ·have:=k3 y hy;omega
  ·rintro ⟨h1,h2,h3,h4⟩;obtain ⟨k1,k2⟩:=List.pairwise_cons.1 h2;have hx:=h1 x (by simp);rw [e1] at h4;have h6:∀y∈pre,y.label≠x.label:=hpx.1 (by rw [List.map_append] at h4;exact (List.nodup_append.1 h4).1);refine ⟨⟨⟨⟨⟨⟨hx.1.1,hx.1.2⟩,hx.2.1⟩,hx.2.2⟩,h3 x (by simp)⟩,h6⟩,?_⟩;rw [e1,e2,yw n l (pre++[x]) x.at_ hx.2.1 (hpx.2 h6)];exact ⟨fun y hy=>h1 y (by simp [hy]),k2,k1,h4⟩
structure Ld (g:Lg):Prop where
 slen:g.saves.length<=4
 ents:Ents g.entries
 nms:(cg g.entries).length<=8
 svs:Svs g.saves g.entries.length
theorem eK {g:Lg}:rT g=true↔Ld g:=by
 unfold rT mx;simp only [qBa,decide_eq_true_eq,D5];have h:=yw (g.entries.length:Int) g.saves [] 0 (Int.le_refl _) (by simp);simp only [List.nil_append,List.length_nil] at h;rw [h];constructor
 ·rintro ⟨⟨⟨⟨h1,h2⟩,h3⟩,h4⟩,h5,h6,h7,h8⟩;exact ⟨h2,h3,h4,h5,h6,h8⟩
 ·rintro ⟨h2,h3,h4,h5,h6,h8⟩;exact ⟨⟨⟨⟨by have:=D7 h3 h4;omega,h2⟩,h3⟩,h4⟩,h5,h6,fun x hx=>(h5 x hx).2.1,h8⟩
def d8 (g:Lg) (e:En):Lg×Int:=bif !rT g then (.zero,2) else bif !rT ⟨g.entries++[e],g.saves⟩ then (.zero,1) else (⟨g.entries++[e],g.saves⟩,0)
def da (g:Lg) (n:Int):Lg×Int :=
 bif !rT g then (.zero,2) else bif !(decide (1<=n) && decide (n<=99)) then (.zero,1) else bif decide (0<=bb n 0 g.saves) then (.zero,11) else bif decide (g.saves.length=4) then (.zero,4) else (⟨g.entries,g.saves++[⟨n,g.entries.length⟩]⟩,0)
def cN (g:Lg) (n:Int):Lg:=bif decide (n=0) then ⟨[],[]⟩ else ⟨g.entries.take ((g.saves.getD (bb n 0 g.saves).toNat ⟨0,0⟩).at_).toNat,g.saves.take ((bb n 0 g.saves).toNat+1)⟩
def cQ (g:Lg) (n:Int):Lg×List Tm×Int :=
 bif !rT g then (.zero,[],2) else bif !decide (n=0) && decide (bb n 0 g.saves<0) then (.zero,[],10) else
 (cN g n,(cg (g.entries.drop (cN g n).entries.length)).map fun m=>⟨m,aC (cN g n).entries m⟩,0)
def oth (n:ByteArray) (e:En):Bool:=!bC e.name n
def gS (g:Lg) (n:ByteArray):Lg:=⟨g.entries.filter (oth n),g.saves.map fun s=>⟨s.label,((g.entries.take s.at_.toNat).filter (oth n)).length⟩⟩
def ic (g:Lg) (n:ByteArray):Lg×Bool:=bif !rT g then (.zero,false) else bif decide ((gS g n).entries.length=g.entries.length) then (.zero,false) else (gS g n,true)
def dx (g:Lg):List Tm:=((cg g.entries).map fun m=>(⟨m,aC g.entries m⟩:Tm)).filter fun a=>!aR a.am
theorem lR {l:List ByteArray} (h:oU l):l.Nodup:=h.imp fun {a b} (hab:jN a b=true) (e:a=b)=>by rw [e,fD] at hab;cases hab
theorem n4 {α:Type} [DecidableEq α] {l m:List α} (hn:l.Nodup) (hs:∀x∈l,x∈m):l.length<=m.length:=by
 induction l generalizing m with
 | nil=>exact Nat.zero_le _
 | cons x l ih =>
  rw [List.nodup_cons] at hn;have hx:=hs x (by simp);have h1:=ih (m:=m.erase x) hn.2 fun y hy=>(List.mem_erase_of_ne (fun (e:y=x)=>hn.1 (e▸hy))).2 (hs y (by simp [hy]));have h2:=List.length_erase_of_mem hx;have h3:=List.length_pos_of_mem hx;rw [List.length_cons];omega
theorem AS {l m:List En} (h:∀e∈l,e∈m):(cg l).length<=(cg m).length :=
 n4 (lR (gx l)) fun x hx=>by
  obtain ⟨e,he,hn⟩:=dY.1 hx;exact dY.2 ⟨e,h e he,hn⟩
theorem Svs.mono {s:List Sv} {n m:Int} (h:Svs s n) (hm:n<=m):Svs s m:=⟨fun x hx=>⟨(h.lab x hx).1,(h.lab x hx).2.1,by have:=(h.lab x hx).2.2;omega⟩,h.ord,h.nd⟩
theorem AT {g:Lg} (h:Ld g) {e:En} (hn:dh e.name.toList=true) (hb:e.before=aC g.entries e.name) (hg:dX e.before e.after=true) {ns:List ByteArray} (hns:ns.length<=8) (h1:∀x∈g.entries,x.name∈ns) (h2:e.name∈ns) :
  d8 g e=(⟨g.entries++[e],g.saves⟩,0)/\Ld ⟨g.entries++[e],g.saves⟩:=by
 have hl:Ld ⟨g.entries++[e],g.saves⟩:=by
  refine ⟨h.slen,Ents.snoc.2 ⟨h.ents,hn,hb,hg⟩,?_,h.svs.mono (by show (g.entries.length:Int)<=((g.entries++[e]).length:Nat);rw [List.length_append];omega)⟩;have:=n4 (m:=ns) (lR (gx (g.entries++[e]))) fun x hx=>by
   obtain ⟨f,hf,hfx⟩:=dY.1 hx;rcases List.mem_append.1 hf with hf|hf
   ·exact hfx▸h1 f hf
   ·rw [List.mem_singleton] at hf;subst hf;exact hfx▸h2
  show (cg (g.entries++[e])).length<=8;omega
 refine ⟨?_,hl⟩;unfold d8;rw [eK.2 h,eK.2 hl];rfl
theorem HY {g:Lg} {n:Int} (h:(da g n).2=0):Ld g/\da g n=(⟨g.entries,g.saves++[⟨n,g.entries.length⟩]⟩,0)/\Ld ⟨g.entries,g.saves++[⟨n,g.entries.length⟩]⟩:=by
 unfold da at h ⊢;cases hV:rT g with
 | false=>rw [hV] at h;simp at h
 | true =>
  have hl:=eK.1 hV;rw [hV] at h;simp only [Bool.not_true,qCf] at h ⊢;cases hA:decide (1<=n) && decide (n<=99) with
  | false=>rw [hA] at h;simp at h
  | true =>
   rw [hA] at h;simp only [Bool.not_true,qCf] at h ⊢;simp only [qBa,decide_eq_true_eq] at hA;by_cases hF:0<=bb n 0 g.saves
   ·rw [qDt hF] at h;simp at h
   ·rw [qDf hF] at h ⊢;simp only [qCf] at h ⊢;by_cases h4:g.saves.length=4
    ·rw [qDt h4] at h;simp at h
    ·rw [qDf h4];refine ⟨hl,rfl,by have:=hl.slen;simp;omega,hl.ents,hl.nms,?_,?_,?_⟩
     ·intro x hx;rcases List.mem_append.1 hx with hx|hx
      ·exact hl.svs.lab x hx
      ·rw [List.mem_singleton] at hx;subst hx;exact ⟨hA,by simp,by simp⟩
     ·rw [List.pairwise_append];refine ⟨hl.svs.ord,by simp,?_⟩;intro x hx y hy;rw [List.mem_singleton] at hy;subst hy;exact (hl.svs.lab x hx).2.2
     ·rw [List.map_append,List.nodup_append];refine ⟨hl.svs.nd,by simp,?_⟩;intro u hu v hv;obtain ⟨y,hy,rfl⟩:=List.mem_map.1 hu;simp at hv;subst hv;exact (Gf (k:=0)).1 (by omega) y hy
theorem Oc {g:Lg} {n:Int} (h:(cQ g n).2.2=0):Ld g/\Ld (cN g n)/\cQ g n=(cN g n,(cg (g.entries.drop (cN g n).entries.length)).map fun m=>⟨m,aC (cN g n).entries m⟩,0)/\(cN g n).entries=g.entries.take (cN g n).entries.length:=by
 unfold cQ at h ⊢;cases hV:rT g with
 | false=>rw [hV] at h;simp at h
 | true =>
  have hl:=eK.1 hV;rw [hV] at h;simp only [Bool.not_true,qCf] at h ⊢;cases hA : !decide (n=0) && decide (bb n 0 g.saves<0) with
  | true=>rw [hA] at h;simp at h
  | false =>
   refine ⟨hl,?_,rfl,?_⟩
   ·unfold cN;by_cases h0:n=0
    ·rw [qDt h0,qCt];exact ⟨by simp,fun k hk=>absurd hk (by simp),by simp [cg,ew],fun x hx=>absurd hx (by simp),by simp,by simp⟩
    ·rw [qDf h0] at hA ⊢;simp only [Bool.not_false,Bool.true_and,decide_eq_false_iff_not] at hA;obtain ⟨i,hi,e1,e2⟩:=jO (n:=n) (l:=g.saves) (k:=0) (by omega);have e3:(bb n 0 g.saves).toNat=i:=by rw [e1];omega
     rw [e3,qCf];have e4:g.saves.getD i ⟨0,0⟩=g.saves[i]:=by simp [hi]
     rw [e4];have hsi:=hl.svs.lab g.saves[i] (List.getElem_mem hi);refine ⟨by have:=hl.slen;simp;omega,hl.ents.take _,Nat.le_trans (AS fun e he=>List.mem_of_mem_take he) hl.nms,?_,?_,?_⟩
     ·intro x hx;have h1:=hl.svs.lab x (List.mem_of_mem_take hx);refine ⟨h1.1,h1.2.1,?_⟩;obtain ⟨j,hj,e⟩:=List.mem_iff_getElem.1 hx;rw [List.getElem_take] at e;have hj2:j<g.saves.length:=by rw [List.length_take] at hj;omega
      have hji:j<=i:=by rw [List.length_take] at hj;omega
      have h2:g.saves[j].at_<=g.saves[i].at_:=by
       rcases Nat.lt_or_eq_of_le hji with hlt|rfl
       ·exact List.pairwise_iff_getElem.1 hl.svs.ord j i hj2 hi hlt
       ·exact Int.le_refl _
      rw [e] at h2;show x.at_<=((g.entries.take g.saves[i].at_.toNat).length:Nat);rw [List.length_take];omega
     ·exact hl.svs.ord.sublist (List.take_sublist _ _)
     ·exact hl.svs.nd.sublist ((List.take_sublist _ _).map _)
   ·unfold cN;cases decide (n=0) with
    | true=>simp
    | false =>
     simp only [qCf];rw [List.length_take];rcases Nat.le_total (g.saves.getD (bb n 0 g.saves).toNat ⟨0,0⟩).at_.toNat g.entries.length with h|h
     ·rw [Nat.min_eq_left h]
     ·rw [Nat.min_eq_right h,List.take_of_length_le h,List.take_length]
theorem m5 (n m:ByteArray):∀(l:List En) (a:Am),(m=n->a=⟨0,0⟩)->eF m a (l.filter (oth n))=if m=n then ⟨0,0⟩ else eF m a l
 | [],a,ha=>by
  by_cases h:m=n
  ·simp [eF,h,ha h]
  ·simp [eF,h]
 | e :: l,a,ha=>by
  rw [List.filter_cons];unfold oth;cases he:bC e.name n with
  | true =>
   have hen:=bj.1 he;simp only [Bool.not_true,Bool.false_eq_true,if_false];rw [show (List.filter (fun e=>!bC e.name n) l)=l.filter (oth n) from rfl,m5 n m l a ha];by_cases h:m=n
   ·rw [if_pos h,if_pos h]
   ·rw [if_neg h,if_neg h];have:bC e.name m=false:=cd.2 fun h2=>h (h2.symm.trans hen);show eF m a l=eF m (bif bC e.name m then e.after else a) l;rw [this];rfl
  | false =>
   have hen:=cd.1 he;simp only [Bool.not_false,if_true];show eF m (bif bC e.name m then e.after else a) (l.filter (oth n))=_;rw [m5 n m l _ (fun h=>by
    have:bC e.name m=false:=cd.2 fun h2=>hen (h2.trans h);rw [this];exact ha h)]
   rfl
theorem jb (n m:ByteArray) (l:List En):aC (l.filter (oth n)) m=if m=n then ⟨0,0⟩ else aC l m:=m5 n m l _ fun _=>rfl
theorem D8 {l:List En} (h:Ents l) (n:ByteArray):Ents (l.filter (oth n)):=by
 refine pQ (P:=fun l=>Ents (l.filter (oth n))) (fun k hk=>absurd hk (by simp)) ?_ l h;intro l e _ he ih;rw [List.filter_append];cases ho:oth n e with
 | false =>
  have:[e].filter (oth n)=[]:=by simp [ho]
  rw [this,List.append_nil];exact ih
 | true =>
  have:[e].filter (oth n)=[e]:=by simp [ho]
  rw [this];have hne:e.name≠n:=by unfold oth at ho;rw [Bool.not_eq_true',cd] at ho;exact ho
  exact Ents.snoc.2 ⟨ih,he.nm,by rw [jb,if_neg hne];exact he.bef,he.gr⟩
theorem su {α:Type} (p:α->Bool) (l:List α) {i j:Nat} (h:i<=j):((l.take i).filter p).length<=((l.take j).filter p).length:=by
 have:l.take i=(l.take j).take i:=by rw [List.take_take];congr 1;omega
 rw [this];exact ((List.take_sublist i (l.take j)).filter p).length_le
theorem Od {g:Lg} (h:Ld g) (n:ByteArray):Ld (gS g n):=by
 unfold gS;refine ⟨by have:=h.slen;simpa using this,D8 h.ents n,Nat.le_trans (AS fun e he=>(List.mem_filter.1 he).1) h.nms,?_,?_,?_⟩
 ·intro x hx;obtain ⟨s,hs,rfl⟩:=List.mem_map.1 hx;have h1:=h.svs.lab s hs;refine ⟨h1.1,Int.natCast_nonneg _,?_⟩;have:=((List.take_sublist s.at_.toNat g.entries).filter (oth n)).length_le;show (((g.entries.take s.at_.toNat).filter (oth n)).length:Int)<=((g.entries.filter (oth n)).length:Nat);omega
 ·rw [List.pairwise_map];exact h.svs.ord.imp fun {a b} (hab:a.at_<=b.at_)=>by
   have:=su (oth n) g.entries (i:=a.at_.toNat) (j:=b.at_.toNat) (by omega);show ((_:Nat):Int)<=((_:Nat):Int);omega
 ·rw [List.map_map];exact h.svs.nd
end Go.Proofs.YthpgjkjgkhjjlaaGreatDoor
