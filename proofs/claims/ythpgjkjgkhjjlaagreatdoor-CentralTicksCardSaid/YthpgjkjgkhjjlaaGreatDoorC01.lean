/- Part C01 of a proof of statements of chapter 15 (no condition). -/
import Derived.Test.YthpgjkjgkhjjlaaGreatDoorK42
set_option linter.unusedVariables false
set_option linter.unusedSimpArgs false
set_option maxRecDepth 100000
set_option maxHeartbeats 64000000
namespace Go.Proofs.YthpgjkjgkhjjlaaGreatDoor
open Go.RowKit Go.Proofs.Tryz
def pi:Cs->List Cm->Cs
 | c,[]=>c
 | c,k :: l=>pi (bif decide ((cy c k).2.2=0) then (cy c k).1 else c) l
theorem Cx:∀(l:List Cm) (c:Cs),cG c=true->cG (pi c l)=true
 | [],_,h=>h
 | k :: l,c,h=>by
  show cG (pi (bif decide ((cy c k).2.2=0) then (cy c k).1 else c) l)=true;by_cases he:(cy c k).2.2=0
  ·exact V8
  ·rw [qDf he];exact Cx l c h
theorem Bh (cat:List Rs):∀(n:Nat) (t:Tp),(qk cat n t).length<=n
 | 0,_=>Nat.le_refl _
 | n+1,t=>by
  unfold qk;cases decide (t.at_<t.l.length) with
  | true=>have:=Bh cat n (vG t cat).2;simp;omega
  | false=>simp
theorem qt {c:Cs} {k:Cm} (hk:k.kind=9) (h:cG c=true) (h0:0<=k.n) (h1:k.n<=1000) (hm:c.now+k.n<=1073741824) :
  cy c k=((cI c.procs.length ⟨{ c with now:=c.now+k.n },[]⟩).c,(cI c.procs.length ⟨{ c with now:=c.now+k.n },[]⟩).ev,0):=by
 have e:g8 ⟨c,[]⟩ k=(cI c.procs.length ⟨{ c with now:=c.now+k.n },[]⟩,0):=by
  exact Wh
 unfold cy;rw [h,e];rfl
theorem mi {c:Cs} {k:Cm} (h:cG c=true) (h0:(g8 ⟨c,[]⟩ k).2=0):cy c k=((g8 ⟨c,[]⟩ k).1.c,(g8 ⟨c,[]⟩ k).1.ev,0):=by
 unfold cy;rw [h,qDt h0];rfl
theorem iQ {c:Cs} {k:Cm} (h:(cy c k).2.2=0):cG c=true/\(g8 ⟨c,[]⟩ k).2=0:=by
 have hc:=(fI h).1;refine ⟨hc,?_⟩;unfold cy at h;rw [hc] at h;by_cases h0:(g8 ⟨c,[]⟩ k).2=0
 ·exact h0
 ·rw [qDf h0] at h;exact h
def d9 (t:Int) (e:List Ev) (w:Wk):Wk:=⟨{ w.c with now:=t },e++w.ev⟩
theorem IF (t:Int) (e:List Ev) (w:Wk) (T:List Qu) (ev:List Ev):(d9 t e w).take T ev=d9 t e (w.take T ev):=by
 unfold d9 Wk.take;simp
theorem IG (t:Int) (e:List Ev) (w:Wk) (k:Int) (p:Pr):(d9 t e w).note k p=d9 t e (w.note k p):=by
 unfold d9 Wk.note;simp
theorem Kc (t:Int) (e:List Ev) (w:Wk) (p:Pr) (n:ByteArray):fv (d9 t e w) p n=d9 t e (fv w p n):=IF _ _ _ _ _
theorem MQ (t:Int) (e:List Ev) (w:Wk) (p:Pr) (a:Tm):dI (d9 t e w) p a=d9 t e (dI w p a):=IF _ _ _ _ _
theorem MR (t:Int) (e:List Ev) (w:Wk) (p:Pr) (n:ByteArray):eT (d9 t e w) p n=d9 t e (eT w p n):=by
 show (bif (aj (bf w.c.queues n) p).isSome then fv (d9 t e w) p n else d9 t e w)=_;unfold eT;cases (aj (bf w.c.queues n) p).isSome with
 | true=>exact Kc _ _ _ _ _
 | false=>rfl
theorem MS (t:Int) (e:List Ev) (w:Wk) (p:Pr) (n:ByteArray) (l:Am):bZ (d9 t e w) p n l=d9 t e (bZ w p n l):=by
 show (bif decide (ah (bf w.c.queues n).holds p=l) then d9 t e w else dI (d9 t e w) p ⟨n,l⟩)=_;unfold bZ;cases decide (ah (bf w.c.queues n).holds p=l) with
 | true=>rfl
 | false=>exact MQ _ _ _ _ _
theorem II (t:Int) (e:List Ev) (w:Wk) (x:Pc) (n:ByteArray):bH (d9 t e w) x n=d9 t e (bH w x n):=by
 unfold bH;rw [MR,MS]
theorem E8 (t:Int) (e:List Ev) (x:Pc):∀(l:List Tm) (w:Wk),cS x l (d9 t e w)=d9 t e (cS x l w)
 | [],_=>rfl
 | a :: l,w=>by
  show cS x l (bH (d9 t e w) x a.name)=d9 t e (cS x l (bH w x a.name));rw [II,E8 t e x l]
theorem E9 (t:Int) (e:List Ev) (w:Wk) (i:Nat):ai (d9 t e w) i=d9 t e (ai w i):=by
 show dO (cS (w.pc i) (bJ (w.pc i).req.expr) (d9 t e w)) i=_;rw [E8];rfl
theorem O1 (t:Int) (e:List Ev) (w:Wk) (i:Nat):aZ (d9 t e w) i=d9 t e (aZ w i):=rfl
theorem Rc (t:Int) (e:List Ev) (w:Wk) (i:Nat) (p:Pr) (n:ByteArray):gy (d9 t e w) i p n=d9 t e (gy w i p n):=by
 show (bif decide (ah (bf w.c.queues n).holds p=aC (w.pc i).led.entries n) then d9 t e w else
  d9 t e (w.setP i { w.pc i with led:=(d8 (w.pc i).led ⟨n,aC (w.pc i).led.entries n,ah (bf w.c.queues n).holds p⟩).1 }))=_
 unfold gy;cases decide (ah (bf w.c.queues n).holds p=aC (w.pc i).led.entries n) <;> rfl
theorem y8 (t:Int) (e:List Ev) (x:Pc) (i:Nat):∀(l:List Tm) (bs:List Bool) (w:Wk),bO x i l bs (d9 t e w)=d9 t e (bO x i l bs w)
 | [],_,_=>by simp [bO]
 | _ :: _,[],_=>by simp [bO]
 | a :: l,b :: bs,w=>by
  rw [bO,bO];cases b with
  | true =>
   rw [qCt,qCt,Rc];exact y8 t e x i l bs _
  | false =>
   rw [qCf,qCf,II];exact y8 t e x i l bs _
theorem Rd (t:Int) (e:List Ev) (w:Wk) (i:Nat):eJ (d9 t e w) i=d9 t e (eJ w i):=by
 show aZ (dO (bO (w.pc i) i (bJ (w.pc i).req.expr) (bz (w.pc i).req.expr (bk w.c.queues (w.pc i).proc (w.pc i).req.expr)) ((d9 t e w).note 2 (w.pc i).proc)) i) i=_;rw [IG,y8];rfl
theorem y9 (t:Int) (e:List Ev):∀(n:Nat) (w:Wk),aK n (d9 t e w)=d9 t e (aK n w)
 | 0,_=>rfl
 | n+1,w=>by
  show (match dF w.c.queues 0 w.c.procs with
   | none=>d9 t e w
   | some i=>aK n (eJ (d9 t e w) i))=_
  rw [aK];cases dF w.c.queues 0 w.c.procs with
  | none=>rfl
  | some i =>
   show aK n (eJ (d9 t e w) i)=d9 t e (aK n (eJ w i));rw [Rd,y9 t e n]
theorem Kd (t:Int) (e:List Ev) (w:Wk):bw (d9 t e w)=d9 t e (bw w):=y9 t e _ w
def i5 (w:Wk) (i:Nat):Wk:=bw (aZ (ai (w.note 4 (w.pc i).proc) i) i)
theorem xA (t:Int) (e:List Ev) (w:Wk) (i:Nat):i5 (d9 t e w) i=d9 t e (i5 w i):=by
 show bw (aZ (ai ((d9 t e w).note 4 (w.pc i).proc) i) i)=_;rw [IG,E9,O1,Kd];rfl
theorem d5 (n:Nat) (w:Wk):cI (n+1) w=bif decide (cA w<0) then w else cI n (i5 w (cA w).toNat):=rfl
theorem GK (t:Int) (e:List Ev) (w:Wk):cA (d9 t e w)=(gh t 0 w.c.procs (-1,0)).1:=rfl
theorem Fa (e:List Ev):∀(n:Nat) (w:Wk),cI n (d9 w.c.now e w)=d9 (cI n w).c.now e (cI n w)
 | 0,_=>rfl
 | n+1,w=>by
  rw [d5,d5];have h1:cA (d9 w.c.now e w)=cA w:=rfl;rw [h1];cases decide (cA w<0) with
  | true=>rfl
  | false =>
   rw [qCf,qCf,xA];have h2:d9 w.c.now e (i5 w (cA w).toNat)=d9 (i5 w (cA w).toNat).c.now e (i5 w (cA w).toNat):=by
    have h3:=xA w.c.now [] w (cA w).toNat;have h4:d9 w.c.now [] w=w:=by unfold d9;simp
    rw [h4] at h3;have h5:(i5 w (cA w).toNat).c.now=w.c.now:=by rw [h3];rfl
    rw [h5]
   rw [h2];exact Fa e n _
theorem Bw {t t':Int} (ht:t<=t'):∀(l:List Pc) (k:Nat) (b b':Int×Int),(b=b'/\0<=b.1/\b.2<=t)\/(b.1<0/\(b'.1<0\/t<b'.2))->
  0<=(gh t k l b).1->gh t' k l b'=gh t k l b
 | [],_,b,b',hb,h=>by
  rcases hb with ⟨h1,_⟩|⟨h1,_⟩
  ·exact h1.symm
  ·have h':0<=b.1:=h;omega
 | x :: l,k,b,b',hb,h=>by
  have e:∀(u:Int) (b:Int×Int),gh u k (x :: l) b=gh u (k+1) l (bif x.waiting && !decide (x.req.limit=0) && decide (x.since+x.req.limit<=u) && (decide (b.1<0) || decide (x.since+x.req.limit<b.2)) then ((k:Int),x.since+x.req.limit) else b):=fun _ _=>rfl;rw [e] at h ⊢;rw [e];refine Bw ht l (k+1) _ _ ?_ h;clear e h;cases hw:x.waiting && !decide (x.req.limit=0) with
  | false=>simpa only [Bool.false_and,qCf] using hb
  | true =>
   simp only [Bool.true_and];generalize x.since+x.req.limit=s;by_cases h1:s<=t
   ·rw [qDt h1,qDt (show s<=t' by omega)];simp only [Bool.true_and];rcases hb with ⟨rfl,h2,h3⟩|⟨h2,h3⟩
    ·left
     refine ⟨rfl,?_⟩;cases decide (b.1<0) || decide (s<b.2) with
     | true=>exact ⟨by rw [qCt];simp,h1⟩
     | false=>exact ⟨h2,h3⟩
    ·left
     rw [qDt h2,Bool.true_or,qCt];have h4:(decide (b'.1<0) || decide (s<b'.2))=true:=by
      rw [Bool.or_eq_true,decide_eq_true_eq,decide_eq_true_eq];omega
     rw [h4];exact ⟨rfl,by simp,h1⟩
   ·rw [qDf h1];simp only [Bool.false_and,qCf];rcases hb with ⟨rfl,h2,h3⟩|⟨h2,h3⟩
    ·left
     have h4:(decide (b.1<0) || decide (s<b.2))=false:=by
      rw [Bool.or_eq_false_iff,decide_eq_false_iff_not,decide_eq_false_iff_not];omega
     rw [h4,Bool.and_false];exact ⟨rfl,h2,h3⟩
    ·right
     refine ⟨h2,?_⟩;cases decide (s<=t') && (decide (b'.1<0) || decide (s<b'.2)) with
     | true=>right;show t<s;omega
     | false=>exact h3
theorem qu {w:Wk} (h:CI w.c) (he:0<=cA w):CI (i5 w (cA w).toNat).c/\ct (i5 w (cA w).toNat).c.procs+1<=ct w.c.procs/\Kp w (i5 w (cA w).toNat):=by
 obtain ⟨hi,hl⟩:=(gF w).2 he;generalize (cA w).toNat=i at *
 have hc0:CI (w.note 4 (w.pc i).proc).c:=h;have hw0:((w.note 4 (w.pc i).proc).pc i).waiting=true:=by rw [bh (w:=w.note 4 (w.pc i).proc) hi];exact hl.1
 obtain ⟨k1,k2,k3,k4,_⟩:=b9 hc0 hi hw0;have hi2:i<(ai (w.note 4 (w.pc i).proc) i).c.procs.length:=by rw [k3.len];exact hi
 have hrun:((ai (w.note 4 (w.pc i).proc) i).pc i).waiting=false:=by rw [bh hi2];simp [k4]
 obtain ⟨n1,n2,n3⟩:=eL k1 hi2 hrun;obtain ⟨q1,_,q3,q4,q5,q6,_,q8⟩:=ir n1;have k2':ct (ai (w.note 4 (w.pc i).proc) i).c.procs+1=ct w.c.procs:=k2;have hk:=(k3.trans n2).trans (⟨q6,q4,q3,q8⟩:Kp _ (bw (aZ (ai (w.note 4 (w.pc i).proc) i) i)));exact UX
theorem sP:∀(n:Nat) (w:Wk),CI w.c->ct w.c.procs<=n->∀m,n<=m->cI m w=cI n w
 | 0,w,h,hn,m,_=>by
  cases m with
  | zero=>rfl
  | succ m =>
   rw [d5];by_cases he:cA w<0
   ·rw [qDt he];rfl
   ·have:=(qu h (by omega)).2.1;omega
 | n+1,w,h,hn,m,hm=>by
  cases m with
  | zero=>omega
  | succ m =>
   rw [d5,d5];by_cases he:cA w<0
   ·rw [qDt he];rfl
   ·rw [qDf he,qCf,qCf];obtain ⟨k1,k2,_⟩:=qu h (by omega);exact sP n _ k1 (by omega) m (by omega)
theorem PT (t t':Int) (w:Wk):d9 t' [] (d9 t [] w)=d9 t' [] w:=by unfold d9;simp
theorem PU {w:Wk} {t t':Int} (h:CI (d9 t [] w).c) (h0:t<=t') (hm:t'<=1073741824):CI (d9 t' [] w).c:=by
 have:=h.later (n:=t'-t) (by omega) (by show t+(t'-t)<=1073741824;omega);have e:({ (d9 t [] w).c with now:=(d9 t [] w).c.now+(t'-t) }:Cs)=(d9 t' [] w).c:=by
  show (⟨t+(t'-t),_,_⟩:Cs)=⟨t',_,_⟩;rw [show t+(t'-t)=t' by omega];rfl
 rw [e] at this;exact this
theorem za {t t':Int} (ht:t<=t') (hm:t'<=1073741824):∀(n:Nat) (w:Wk),CI (d9 t [] w).c->ct w.c.procs<=n->∀m,ct (cI n (d9 t [] w)).c.procs<=m->
  cI m (d9 t' [] (cI n (d9 t [] w)))=cI n (d9 t' [] w)
 | 0,w,h,hn,m,_=>by
  show cI m (d9 t' [] (d9 t [] w))=_;rw [PT];exact sP 0 _ (PU h ht hm) hn m (by omega)
 | n+1,w,h,hn,m,hmm=>by
  by_cases he:cA (d9 t [] w)<0
  ·have e0:cI (n+1) (d9 t [] w)=d9 t [] w:=by rw [d5,qDt he];rfl
   rw [e0] at hmm ⊢;rw [PT];have hc:=PU h ht hm;have h1:=sP (ct w.c.procs) (d9 t' [] w) hc (Nat.le_refl _);rw [h1 m hmm,h1 (n+1) hn]
  ·have e1:cA (d9 t' [] w)=cA (d9 t [] w):=by
    rw [GK,GK];rw [GK] at he;rw [Bw ht w.c.procs 0 (-1,0) (-1,0) (.inr ⟨by decide,.inl (by decide)⟩) (by omega)]
   have hl:=qu h (show 0<=cA (d9 t [] w) by omega);rw [d5,qDf he,qCf] at hmm ⊢;rw [d5,e1,qDf he,qCf];generalize (cA (d9 t [] w)).toNat=i at *
   rw [xA] at hmm hl ⊢;rw [xA];exact za ht hm n (i5 w i) hl.1 (by have:=hl.2.1;have e2:ct (d9 t [] w).c.procs=ct w.c.procs:=rfl;have e3:ct (d9 t [] (i5 w i)).c.procs=ct (i5 w i).c.procs:=rfl;omega) m hmm
theorem Fb {c:Cs} {k k' k'':Cm} (hk:k.kind=9) (hk':k'.kind=9) (hk'':k''.kind=9) (hn:k''.n=k.n+k'.n) (h:cG c=true) (h0:0<=k.n) (h0':0<=k'.n) (h1:k.n+k'.n<=1000) (hm:c.now+k.n+k'.n<=1073741824) :
  (cy c k).2.2=0/\(cy (cy c k).1 k').2.2=0/\(cy c k'').2.2=0/\(cy (cy c k).1 k').1=(cy c k'').1/\(cy c k).2.1++(cy (cy c k).1 k').2.1=(cy c k'').2.1:=by
 obtain ⟨hci,hun⟩:=aV.1 h;have ea:=qt hk h h0 (by omega) (by omega);have ha:(cy c k).2.2=0:=by rw [ea]
 have hd:=(fI ha).2;have ec:=qt hk'' h (by omega) (by omega) (by omega);have hl:=hci.later (n:=k.n) h0 (by omega);obtain ⟨_,_,k3,_,k5⟩:=qi c.procs.length ⟨{ c with now:=c.now+k.n },[]⟩ hl (fun x hx=>iv (c:=c) (hun x hx)) (gj _);have hnow:(cy c k).1.now=c.now+k.n:=by rw [ea];exact k3
 have hlen:(cy c k).1.procs.length=c.procs.length:=by
  rw [ea];have:=congrArg List.length k5;simpa using this
 have eb:=qt hk' hd h0' (by omega) (by rw [hnow];omega);rw [hnow,hlen] at eb;have hs:=za (t:=c.now+k.n) (t':=c.now+k.n+k'.n) (by omega) (by omega) c.procs.length ⟨c,[]⟩ hl (gj _) c.procs.length (by
  have:=gj (cI c.procs.length (d9 (c.now+k.n) [] ⟨c,[]⟩)).c.procs;have e:(cI c.procs.length (d9 (c.now+k.n) [] ⟨c,[]⟩)).c.procs.length=c.procs.length:=by
   have:=congrArg List.length k5;simpa [d9] using this
  omega)
 have e1:(⟨{ c with now:=c.now+k.n },[]⟩:Wk)=d9 (c.now+k.n) [] ⟨c,[]⟩:=rfl;have e2:(⟨{ c with now:=c.now+k''.n },[]⟩:Wk)=d9 (c.now+k.n+k'.n) [] ⟨c,[]⟩:=by
  rw [hn,show c.now+(k.n+k'.n)=c.now+k.n+k'.n by omega];rfl
 rw [e1] at ea;rw [e2] at ec;generalize hW:cI c.procs.length (d9 (c.now+k.n) [] ⟨c,[]⟩)=W at *
 have hp:=Fa W.ev c.procs.length ⟨{ W.c with now:=c.now+k.n+k'.n },[]⟩;have e3:d9 (Wk.mk { W.c with now:=c.now+k.n+k'.n } []).c.now W.ev ⟨{ W.c with now:=c.now+k.n+k'.n },[]⟩=d9 (c.now+k.n+k'.n) [] W:=by
  unfold d9;simp
 rw [e3,hs] at hp;have e4:(⟨{ (cy c k).1 with now:=c.now+k.n+k'.n },[]⟩:Wk)=⟨{ W.c with now:=c.now+k.n+k'.n },[]⟩:=by rw [ea]
 rw [e4] at eb;refine ⟨ha,by rw [eb],by rw [ec],?_,?_⟩
 ·rw [eb,ec,hp];rfl
 ·rw [eb,ec,hp,ea];rfl
theorem C6 {r:Rs} (h:iB r=true):ay (gI r)=true:=by
 have hs:br r=true:=by unfold iB at h;simp only [qBa] at h;exact h.1.1.2
 unfold ay jt gI;simp only [h,Bool.true_and];have h1:zX r []=true:=by unfold zX;rw [hs];simp [xJ,iX,js,hs,fm]
 rw [h1];rfl
theorem G6 {l:List Rs} (h:CatOk l):gu (l.map gI)=true:=by
 have key:∀(m:List Rs) (o:Option ByteArray),(∀x∈m,iB x=true)->(∀i (h:i+1<m.length),jN (m[i]'(by omega)).name m[i+1].name=true)->(∀n,o=some n->∀x,m.head? = some x->jN n x.name=true)->mN o (m.map gI)=true:=by
  intro m;induction m with
  | nil=>intro _ _ _ _;rfl
  | cons x m ih =>
   intro o h1 h2 h3;rw [List.map_cons,eM,C6 (h1 x (by simp))];have e:Hf o (gI x).res.name=true:=by
    cases o with
    | none=>rfl
    | some n=>exact h3 n rfl x rfl
   rw [e];refine ih _ (fun y hy=>h1 y (by simp [hy])) (fun i hi=>?_) fun n hn y hy=>?_
   ·have:=h2 (i+1) (by simpa using hi);simpa using this
   ·cases m with
    | nil=>cases hy
    | cons z m =>
     have:=h2 0 (by simp);exact UR
 exact Vd
theorem BE:eu []=[]:=by
 apply List.eq_nil_iff_forall_not_mem.2
 intro x hx;rw [dd] at hx;cases hx
theorem Kv (l:List Rs):lC (l.map gI)=[]:=by
 induction l with
 | nil=>rfl
 | cons x l ih=>show eu []++lC (l.map gI)=[];rw [ih,BE];rfl
theorem G7 {l:List Rs} (h:CatOk l):di (l.map gI)=true/\aO (l.map gI)=[]:=by
 have e:aO (l.map gI)=[]:=by unfold aO;rw [Kv,BE]
 exact VI
theorem Fx {l:List Rs} (h:CatOk l):cG ⟨0,l.map gI,[]⟩=true:=by
 obtain ⟨h1,h2⟩:=G7 h;exact V3
section
variable {P:Program} {o:Oper} {s:Mst}
theorem cZ {t t':TypeId} {x y:Operand} {la:List D} {a:List Value} {sh:List Nat} [I:EQR P t sh] (ho:o.op = .binOp .neq t x y t') (hx:s.ev x = .v (.ag la)) (hy:s.ev y = .v (.ag la)) (ha:scs la=some a) (h1:a.map shp=sh):LOp P o s [] ⟨.b false,[],[]⟩ :=
 bY fun cx st ρ ac w hr hc _=>by
  have he:=hc x (by simp [ho,Op.operands]);have he2:=hc y (by simp [ho,Op.operands]);exact UP
theorem c5 {t t':TypeId} {x y:Operand} {la:List D} {a:List Value} {sh:List Nat} [I:EQR P t sh] (ho:o.op = .binOp .eql t x y t') (hx:s.ev x = .v (.ag la)) (hy:s.ev y = .v (.ag la)) (ha:scs la=some a) (h1:a.map shp=sh):LOp P o s [] ⟨.b true,[],[]⟩ :=
 bY fun cx st ρ ac w hr hc _=>by
  have he:=hc x (by simp [ho,Op.operands]);have he2:=hc y (by simp [ho,Op.operands]);exact UQ
end
theorem I0 {P:Program} {o:Oper} {s:Mst} {t t':TypeId} {x y:Operand} {a b:Bool} (hT:P.underlying t=some .bool) (ho:o.op = .binOp .eql t x y t') (hx:s.ev x = .b a) (hy:s.ev y = .b b):LOp P o s [] ⟨.b (a == b),[],[]⟩ :=
 iz (by rw [ho];rfl) hx hy fun ev w hx hy=>by simp [execOp,ho,hx,hy,eqGuard,binOp,run_equal_bool w t a b hT]
theorem I1 (L:List Ho):FSpec prog 26 [.one (.sl gM L),.one (.sl gM L)] [] [] (.b true) []:=by
 refine a7 func26 ?_;refine aY (fun c ρ a w hr=>bV (t:=0) hr rfl) (fun hl0=>?_);repeat' (first|refine av ?_ ?_|(refine aa 10 rfl ?_;first|refine sx (cZ rfl rfl rfl rfl rfl) ?_|refine sx (c5 rfl rfl rfl rfl rfl) ?_)|refine aq ?_|exact aw|(refine ap fun hb=>?_;first|(exact absurd rfl hb)|skip))
 refine ab (fun i=>i<=L.length) (fun i=>bP [] [(0,.c (.sl gM L)),(1,.c (.sl gM L)),(5,.i i)] []) (fun i=>L.length-i) 0 (Nat.zero_le _) aT ?_;intro i hi;by_cases hlt:i<L.length
 ·obtain ⟨o,ho⟩:∃o,L[i]? = some o:=⟨_,qGg hlt⟩;repeat' (first|refine av ?_ ?_|(refine aa 10 rfl ?_;first|refine sx (cZ rfl rfl rfl rfl rfl) ?_|refine sx (c5 rfl rfl rfl rfl rfl) ?_)|refine aq ?_|exact aw|(refine ap fun hb=>?_;first|(exact absurd rfl hb)|skip))
  exact UZ
 ·exact UG
theorem I2 (L:List Wt):FSpec prog 171 [.one (.sl fK L),.one (.sl fK L)] [] [] (.b true) []:=by
 refine a7 func171 ?_;refine aY (fun c ρ a w hr=>bV (t:=0) hr rfl) (fun hl0=>?_);repeat' (first|refine av ?_ ?_|(refine aa 10 rfl ?_;first|refine sx (cZ rfl rfl rfl rfl rfl) ?_|refine sx (c5 rfl rfl rfl rfl rfl) ?_)|refine aq ?_|exact aw|(refine ap fun hb=>?_;first|(exact absurd rfl hb)|skip))
 refine ab (fun i=>i<=L.length) (fun i=>bP [] [(0,.c (.sl fK L)),(1,.c (.sl fK L)),(5,.i i)] []) (fun i=>L.length-i) 0 (Nat.zero_le _) aT ?_;intro i hi;by_cases hlt:i<L.length
 ·obtain ⟨o,ho⟩:∃o,L[i]? = some o:=⟨_,qGg hlt⟩;repeat' (first|refine av ?_ ?_|(refine aa 10 rfl ?_;first|refine sx (cZ rfl rfl rfl rfl rfl) ?_|refine sx (c5 rfl rfl rfl rfl rfl) ?_)|refine aq ?_|exact aw|(refine ap fun hb=>?_;first|(exact absurd rfl hb)|skip))
  exact UZ
 ·exact UG
theorem I3 (L:List Ev):FSpec prog 18 [.one (.sl fX L),.one (.sl fX L)] [] [] (.b true) []:=by
 refine a7 func18 ?_;refine aY (fun c ρ a w hr=>bV (t:=0) hr rfl) (fun hl0=>?_);repeat' (first|refine av ?_ ?_|(refine aa 10 rfl ?_;first|refine sx (cZ rfl rfl rfl rfl rfl) ?_|refine sx (c5 rfl rfl rfl rfl rfl) ?_)|refine aq ?_|exact aw|(refine ap fun hb=>?_;first|(exact absurd rfl hb)|skip))
 refine ab (fun i=>i<=L.length) (fun i=>bP [] [(0,.c (.sl fX L)),(1,.c (.sl fX L)),(5,.i i)] []) (fun i=>L.length-i) 0 (Nat.zero_le _) aT ?_;intro i hi;by_cases hlt:i<L.length
 ·obtain ⟨o,ho⟩:∃o,L[i]? = some o:=⟨_,qGg hlt⟩;repeat' (first|refine av ?_ ?_|(refine aa 10 rfl ?_;first|refine sx (cZ rfl rfl rfl rfl rfl) ?_|refine sx (c5 rfl rfl rfl rfl rfl) ?_)|refine aq ?_|exact aw|(refine ap fun hb=>?_;first|(exact absurd rfl hb)|skip))
  exact UZ
 ·exact UG
theorem Rz (q:Qu):FSpec prog 99 [q.a,q.a] [] [] (.b true) []:=by
 exact U7
theorem RA (L:List Qu):FSpec prog 53 [.one (.sl eh L),.one (.sl eh L)] [] [] (.b true) []:=by
 refine a7 func53 ?_;refine aY (fun c ρ a w hr=>bV (t:=0) hr rfl) (fun hl0=>?_);repeat' (first|refine av ?_ ?_|(refine aa 10 rfl ?_;first|refine sx (cZ rfl rfl rfl rfl rfl) ?_|refine sx (c5 rfl rfl rfl rfl rfl) ?_)|refine aq ?_|exact aw|(refine ap fun hb=>?_;first|(exact absurd rfl hb)|skip))
 refine ab (fun i=>i<=L.length) (fun i=>bP [] [(0,.c (.sl eh L)),(1,.c (.sl eh L)),(5,.i i)] []) (fun i=>L.length-i) 0 (Nat.zero_le _) aT ?_;intro i hi;by_cases hlt:i<L.length
 ·obtain ⟨o,ho⟩:∃o,L[i]? = some o:=⟨_,qGg hlt⟩;have kQ:=Rz o;repeat' (first|refine av ?_ ?_|refine aa 9 rfl (cB [] kQ ?_)|(refine aa 10 rfl ?_;first|refine sx (cZ rfl rfl rfl rfl rfl) ?_|refine sx (c5 rfl rfl rfl rfl rfl) ?_)|refine aq ?_|exact aw|(refine ap fun hb=>?_;first|(exact absurd rfl hb)|skip))
  exact UZ
 ·exact UG
theorem Pn (g:Lg):FSpec prog 100 [g.a,g.a] [] [] (.b true) []:=by
 refine a7 func100 ?_;refine aY (fun c ρ a w hr=>d7 (t:=0) (i:=0) hr rfl rfl) (fun hl0_0=>?_);refine aY (fun c ρ a w hr=>d7 (t:=0) (i:=1) hr rfl rfl) (fun hl0_1=>?_);repeat' (first|refine av ?_ ?_|(refine aa 10 rfl ?_;first|refine sx (cZ rfl rfl rfl rfl rfl) ?_|refine sx (c5 rfl rfl rfl rfl rfl) ?_)|refine aq ?_|exact aw|(refine ap fun hb=>?_;first|(exact absurd rfl hb)|skip))
 refine ab (fun i=>i<=g.entries.length) (fun i=>bP [2,3] [(2,.c (.ptr 2 0)),(3,.c (.ptr 3 0)),(5,.i i)] [(2,.box 80 [.sl ke g.entries,.sl lS g.saves]),(3,.box 80 [.sl ke g.entries,.sl lS g.saves])]) (fun i=>g.entries.length-i) 0 (Nat.zero_le _) aT ?_;intro i hi;by_cases hlt:i<g.entries.length
 ·obtain ⟨o,ho⟩:∃o,g.entries[i]? = some o:=⟨_,qGg hlt⟩;repeat' (first|refine av ?_ ?_|(refine aa 10 rfl ?_;first|refine sx (cZ rfl rfl rfl rfl rfl) ?_|refine sx (c5 rfl rfl rfl rfl rfl) ?_)|refine aq ?_|exact aw|(refine ap fun hb=>?_;first|(exact absurd rfl hb)|skip))
  exact UZ
 refine ao ?_;refine ab (fun i=>i<=g.saves.length) (fun i=>bP [2,3] [(2,.c (.ptr 2 0)),(3,.c (.ptr 3 0)),(6,.i i)] [(2,.box 80 [.sl ke g.entries,.sl lS g.saves]),(3,.box 80 [.sl ke g.entries,.sl lS g.saves])]) (fun i=>g.saves.length-i) 0 (Nat.zero_le _) aT ?_;clear hi hlt;intro i hi;by_cases hlt:i<g.saves.length
 ·obtain ⟨o,ho⟩:∃o,g.saves[i]? = some o:=⟨_,qGg hlt⟩;repeat' (first|refine av ?_ ?_|(refine aa 10 rfl ?_;first|refine sx (cZ rfl rfl rfl rfl rfl) ?_|refine sx (c5 rfl rfl rfl rfl rfl) ?_)|refine aq ?_|exact aw|(refine ap fun hb=>?_;first|(exact absurd rfl hb)|skip))
  exact UZ
 ·exact UG
theorem Po:∀(x:Ex) (d:Nat),FSpec prog 172 [x.a d,x.a d] [] [] (.b true) []:=by
 refine Ex.ind (fun k a l ih=>?_);intro d;show FSpec prog 172 [.ag (Ai d k a l),.ag (Ai d k a l)] [] [] (.b true) [];refine a7 func172 ?_;refine aY (fun c ρ a w hr=>jP (t:=0) (i:=4) hr rfl rfl) (fun hx=>?_);obtain ⟨hlen,hne⟩:=hx;rcases Nat.eq_zero_or_pos l.length with h0|h0
 ·obtain rfl:l=[]:=List.length_eq_zero_iff.1 h0;repeat' (first|refine av ?_ ?_|(refine aa 10 rfl ?_;first|refine sx (cZ rfl rfl rfl rfl rfl) ?_|refine sx (c5 rfl rfl rfl rfl rfl) ?_)|refine aq ?_|exact aw|(refine ap fun hb=>?_;first|(exact absurd rfl hb)|skip))
  refine ab (fun _:Unit=>True) (fun _=>bP [2,3] [(2,.c (.ptr 2 0)),(3,.c (.ptr 3 0)),(5,.i (0:Nat))] [(2,.box 47 (Ai d k a [])),(3,.box 47 (Ai d k a []))]) (fun _=>0) () trivial aT ?_;rintro _ -
  exact UG
 ·obtain ⟨e,rfl⟩:=hne h0;clear hne;repeat' (first|refine av ?_ ?_|(refine aa 10 rfl ?_;first|refine sx (cZ rfl rfl rfl rfl rfl) ?_|refine sx (c5 rfl rfl rfl rfl rfl) ?_)|refine aq ?_|exact aw|(refine ap fun hb=>?_;first|(exact absurd rfl hb)|skip))
  refine ab (fun i=>i<=l.length) (fun i=>bP [2,3] [(2,.c (.ptr 2 0)),(3,.c (.ptr 3 0)),(5,.i i)] [(2,.box 47 (Ai (e+1) k a l)),(3,.box 47 (Ai (e+1) k a l))]) (fun i=>l.length-i) 0 (Nat.zero_le _) aT ?_;intro i hi;by_cases hlt:i<l.length
  ·have kS:=ih l[i] (List.getElem_mem hlt) e;clear ih;repeat' (first|refine av ?_ ?_|refine aa 9 rfl (cB [] kS ?_)|(refine aa 10 rfl ?_;first|refine sx (cZ rfl rfl rfl rfl rfl) ?_|refine sx (c5 rfl rfl rfl rfl rfl) ?_)|refine aq ?_|exact aw|(refine ap fun hb=>?_;first|(exact absurd rfl hb)|skip))
   exact U0
  ·exact UG
theorem Pp (d:Nat) (r:Rq):FSpec prog 101 [r.a d,r.a d] [] [] (.b true) []:=by
 refine a7 func101 ?_;have kS:=Po r.expr d;repeat' (first|refine av ?_ ?_|refine aa 9 rfl (cB [] kS ?_)|(refine aa 10 rfl ?_;first|refine sx (cZ rfl rfl rfl rfl rfl) ?_|refine sx (c5 rfl rfl rfl rfl rfl) ?_|refine sx (I0 underlying4 rfl rfl rfl) ?_)|refine aq ?_|exact aw|(refine ap fun hb=>?_;first|(exact absurd rfl hb)|skip))
 all_goals (refine eU ?_;simp)
theorem Pq (d:Nat) (x:Pc):FSpec prog 54 [x.a d,x.a d] [] [] (.b true) []:=by
 refine a7 func54 ?_;have k1:=Pn x.led;have k2:=Pp d x.req;repeat' (first|refine av ?_ ?_|(refine aa 9 rfl ?_;first|(refine cB [] k1 ?_)|(refine cB [] k2 ?_))|(refine aa 10 rfl ?_;first|refine sx (cZ rfl rfl rfl rfl rfl) ?_|refine sx (c5 rfl rfl rfl rfl rfl) ?_|refine sx (I0 underlying4 rfl rfl rfl) ?_)|refine aq ?_|exact aw|(refine ap fun hb=>?_;first|(exact absurd rfl hb)|skip))
 all_goals (refine eU ?_;simp)
theorem Ha (d:Nat) (c:Cs):FSpec prog 17 [c.a d,c.a d] [] [] (.b true) []:=by
 refine a7 func17 ?_;refine aY (fun c ρ a w hr=>d7 (t:=0) (i:=2) hr rfl rfl) (fun hl0_2=>?_);have k1:=RA c.queues;repeat' (first|refine av ?_ ?_|refine aa 9 rfl (cB [] k1 ?_)|(refine aa 10 rfl ?_;first|refine sx (cZ rfl rfl rfl rfl rfl) ?_|refine sx (c5 rfl rfl rfl rfl rfl) ?_)|refine aq ?_|exact aw|(refine ap fun hb=>?_;first|(exact absurd rfl hb)|skip))
 refine ab (fun i=>i<=c.procs.length) (fun i=>bP [2,3] [(2,.c (.ptr 2 0)),(3,.c (.ptr 3 0)),(5,.i i)] [(2,.box 32 (c.d d)),(3,.box 32 (c.d d))]) (fun i=>c.procs.length-i) 0 (Nat.zero_le _) aT ?_;intro i hi;by_cases hlt:i<c.procs.length
 ·obtain ⟨x,hx⟩:∃x,c.procs[i]? = some x:=⟨_,qGg hlt⟩;have kP:=Pq d x;repeat' (first|refine av ?_ ?_|refine aa 9 rfl (cB [] kP ?_)|(refine aa 10 rfl ?_;first|refine sx (cZ rfl rfl rfl rfl rfl) ?_|refine sx (c5 rfl rfl rfl rfl rfl) ?_)|refine aq ?_|exact aw|(refine ap fun hb=>?_;first|(exact absurd rfl hb)|skip))
  exact UZ
 ·exact UG
theorem Kw (c:Cs) (k:Cm) (l:List Cm):pi c (k :: l)=pi (bif decide ((cy c k).2.2=0) then (cy c k).1 else c) l:=rfl
theorem Tf (c:Cs) (ks:List Cm) {W:Cs} (hW:pi c ks=W):FSpec prog 55 [c.a 2,.one (.sl (Pk 2) ks)] [] [] (.v (W.a 2)) []:=by
 refine a7 func55 ?_;refine aY (fun c ρ a w hr=>bV (t:=1) hr rfl) (fun hl1=>?_);refine ao ?_;refine ab (fun y:Nat×Cs=>y.1<=ks.length/\pi y.2 (ks.drop y.1)=W) (fun y=>bP [2,4] [(1,.c (.sl (Pk 2) ks)),(2,.c (.ptr 2 0)),(4,.c (.ptr 4 0)),(5,.i y.1)] [(2,.box 32 (y.2.d 2)),(4,.box 32 [.sc (.int .i64 0),.sc (.slice none 0 0),.sc (.slice none 0 0)])]) (fun y=>ks.length-y.1) (0,c) ⟨Nat.zero_le _,hW⟩ aT ?_;clear hW c;rintro ⟨i,c⟩ ⟨hi,hs⟩;dsimp only at *
 by_cases hlt:i<ks.length
 ·obtain ⟨k,hk⟩:∃k,ks[i]? = some k:=⟨_,qGg hlt⟩;have ek:=qGs hk;rw [qDc hlt,ek,Kw] at hs;obtain ⟨R,hR⟩:=qGe (cy c k);have kD:=Ur 2 c k hR;rw [hR] at hs;by_cases h0:R.2.2=0
  ·exact UU
  ·exact UV
 ·exact Vm
def i6 (l:List Int):Cs:=pi ⟨0,(fb l).1.map gI,[]⟩ (fb l).2
theorem jr (l:List Int) (hl:l.length<=300) (hc:CatOk (fb l).1) {W:Cs} (hW:i6 l=W):FSpec prog 19 [.one (.sl km l)] [] [] (.v (W.a 2)) []:=by
 exact UL
theorem Ps {c:Cs} {k:Cm} (h:cG c=true) (he:(g8 ⟨c,[]⟩ k).2=0):c.now<=(g8 ⟨c,[]⟩ k).1.c.now/\(g8 ⟨c,[]⟩ k).1.c.now<=c.now+1000:=by
 obtain ⟨hci,hun⟩:=aV.1 h;have fin:∀w:Wk,w.c.now=c.now->c.now<=w.c.now/\w.c.now<=c.now+1000:=fun w e=>by rw [e];omega
 unfold g8 at he ⊢;cases hA:decide (1<=k.kind) && decide (k.kind<=9) with
 | false=>rw [hA] at he;simp at he
 | true =>
  rw [hA] at he;simp only [Bool.not_true,qCf] at he ⊢;by_cases h1:k.kind=1
  ·rw [qDt h1] at he ⊢;simp only [qCt] at he ⊢;exact fin _ (xw hci he).2.2.1
  ·rw [qDf h1] at he ⊢;simp only [qCf] at he ⊢;by_cases h9:k.kind=9
   ·rw [qDt h9] at he ⊢;simp only [qCt] at he ⊢;have hn:=(Io hci (fun x hx=>iv (hun x hx)) he).2.2.1;have hb:0<=k.n/\k.n<=1000:=by
     unfold gi at he;cases hA:decide (0<=k.n) && decide (k.n<=1000) with
     | false=>rw [hA] at he;simp at he
     | true=>simpa using hA
    rw [hn];show c.now<=c.now+k.n/\c.now+k.n<=c.now+1000;omega
   ·rw [qDf h9] at he ⊢;simp only [qCf] at he ⊢;by_cases hI:bM k.proc 0 c.procs<0
    ·exact VG
    ·rw [qDf hI] at he ⊢;simp only [qCf] at he ⊢;obtain ⟨i,hi,e,_⟩:=c7 (p:=k.proc) (l:=c.procs) (k:=0) (by omega);have ei:(bM k.proc 0 c.procs).toNat=i:=by rw [e];omega
     rw [ei] at he ⊢;by_cases h2:k.kind=2
     ·rw [qDt h2] at he ⊢;simp only [qCt] at he ⊢;exact fin _ (jD hci hi he).2.2.1
     ·rw [qDf h2] at he ⊢;simp only [qCf] at he ⊢;by_cases h3:k.kind=3
      ·rw [qDt h3] at he ⊢;simp only [qCt] at he ⊢;cases hw:(Wk.pc ⟨c,[]⟩ i).waiting with
       | false=>rw [hw] at he;simp at he
       | true =>
        simp only [Bool.not_true,qCf];obtain ⟨k1,_,k3,k4,_⟩:=b9 hci hi hw;have hi2:i<(ai ⟨c,[]⟩ i).c.procs.length:=by rw [k3.len];exact hi
        obtain ⟨n1,n2,_⟩:=eL k1 hi2 (by rw [bh hi2];simp [k4]);exact fin _ ((k3.trans n2).trans (gE n1).2.2).now
      ·rw [qDf h3] at he ⊢;simp only [qCf] at he ⊢;by_cases h4:k.kind=4
       ·rw [qDt h4] at he ⊢;simp only [qCt] at he ⊢;exact fin _ (lZ hci hi he).2.2.1.now
       ·rw [qDf h4] at he ⊢;simp only [qCf] at he ⊢;by_cases h5:k.kind=5
        ·rw [qDt h5] at he ⊢;simp only [qCt] at he ⊢;refine fin _ ?_;clear he;generalize (Wk.pc ⟨c,[]⟩ i).waiting=b1;generalize decide ((da (Wk.pc ⟨c,[]⟩ i).led k.n).2=0)=b2;cases b1 <;> cases b2 <;> rfl
        ·rw [qDf h5] at he ⊢;simp only [qCf] at he ⊢;by_cases h6:k.kind=6
         ·rw [qDt h6] at he ⊢;simp only [qCt] at he ⊢;exact fin _ (iN hci hi he).2.2.1.now
         ·rw [qDf h6] at he ⊢;simp only [qCf] at he ⊢;cases h8:decide (k.kind=8) && (Wk.pc ⟨c,[]⟩ i).waiting with
          | true=>rw [h8] at he;simp at he
          | false =>
           simp only [qCf];exact fin _ (xu (w:=⟨c,[]⟩) hci hi).2.2.2.1
theorem Pt {c:Cs} {k:Cm} (he:(cy c k).2.2=0):c.now<=(cy c k).1.now/\(cy c k).1.now<=c.now+1000:=by
 have hc:=(fI he).1;unfold cy at he ⊢;rw [hc] at he ⊢;by_cases h0:(g8 ⟨c,[]⟩ k).2=0
 ·rw [qDt h0];exact Ps hc h0
 ·rw [qDf h0] at he;exact absurd he h0
theorem zq:∀(l:List Cm) (c:Cs),c.now<=(pi c l).now/\(pi c l).now<=c.now+1000*(l.length:Int)
 | [],c=>⟨Int.le_refl _,by show c.now<=c.now+1000*((0:Nat):Int);omega⟩
 | k :: l,c=>by
  show c.now<=(pi (bif decide ((cy c k).2.2=0) then (cy c k).1 else c) l).now/\(pi (bif decide ((cy c k).2.2=0) then (cy c k).1 else c) l).now<=_;have hl:((k :: l).length:Int)=(l.length:Int)+1:=by simp
  by_cases he:(cy c k).2.2=0
  ·rw [qDt he,qCt,hl];have h1:=Pt he;have h2:=zq l (cy c k).1;omega
  ·rw [qDf he,qCf,hl];have h2:=zq l c;omega
theorem FC (l:List Int):(fb l).2.length<=l.length+4:=by
 exact V4
theorem zr (l:List Int) (hl:l.length<=300):(i6 l).now<=304000:=by
 have h1:=(zq (fb l).2 ⟨0,(fb l).1.map gI,[]⟩).2;have h2:=FC l;have h3:(i6 l).now<=0+1000*((fb l).2.length:Int):=h1;omega
theorem gB (l:List Int):cG (i6 l)=true:=Cx (fb l).2 _ (Fx (jV l))
set_option maxRecDepth 100000
set_option maxHeartbeats 64000000
theorem gH {w:Wk} (h:CI w.c) {n:Nat} (he:w.ev.length<=n):(bw w).ev.length<=n+2248:=by
 have:=sJ h;show (aK w.c.procs.length w).ev.length<=_;omega
theorem BF:∀(n:Nat) (w:Wk),CI w.c->(cI n w).ev.length<=w.ev.length+2600*n
 | 0,w,_=>by show w.ev.length<=_;omega
 | n+1,w,h=>by
  unfold cI;by_cases h0:cA w<0
  ·rw [qDt h0,qCt];omega
  ·rw [qDf h0,qCf];obtain ⟨hi,hl1,_⟩:=(gF w).2 (by omega);generalize (cA w).toNat=i at *
   have hw0:((w.note 4 (w.pc i).proc).pc i).waiting=true:=by
    have hp0:(w.note 4 (w.pc i).proc).pc i=w.pc i:=rfl;rw [hp0,bh hi];exact hl1
   obtain ⟨k1,_,k3,k4,_⟩:=b9 (w:=w.note 4 (w.pc i).proc) h hi hw0;have hev:=dM (w.note 4 (w.pc i).proc) i;rw [g6] at hev;have hi2:i<(ai (w.note 4 (w.pc i).proc) i).c.procs.length:=by rw [k3.len];exact hi
   have hrun:((ai (w.note 4 (w.pc i).proc) i).pc i).waiting=false:=by rw [bh hi2];simp [k4]
   obtain ⟨n1,_,_⟩:=eL k1 hi2 hrun;have he2:(aZ (ai (w.note 4 (w.pc i).proc) i) i).ev.length<=w.ev.length+281:=by
    show (ai (w.note 4 (w.pc i).proc) i).ev.length<=_;omega
   have h1:=gH n1 he2;have h2:=BF n _ (ir n1).1;omega
theorem Pu {c:Cs} {k:Cm} (h:cG c=true):(g8 ⟨c,[]⟩ k).1.ev.length<=100000:=by
 obtain ⟨hci,hun⟩:=aV.1 h;unfold g8;cases hA:decide (1<=k.kind) && decide (k.kind<=9) with
 | false=>exact Nat.zero_le _
 | true =>
  simp only [Bool.not_true,qCf];by_cases h1:k.kind=1
  ·rw [qDt h1,qCt];unfold iZ;cases !(jW k.proc && decide (1<=k.n) && decide (k.n<=1000)) <;> cases decide (0<=bM k.proc 0 (Wk.mk c []).c.procs) <;> cases decide ((Wk.mk c []).c.procs.length=8) <;> exact Nat.zero_le _
  rw [qDf h1,qCf];by_cases h9:k.kind=9
  ·rw [qDt h9,qCt];unfold gi;cases hB:decide (0<=k.n) && decide (k.n<=1000) with
   | false=>exact Nat.zero_le _
   | true =>
    simp only [Bool.not_true,qCf];simp only [qBa,decide_eq_true_eq] at hB;by_cases hm:1073741824-k.n<c.now
    ·rw [qDt hm,qCt];exact VV
    ·exact US
  rw [qDf h9,qCf];by_cases hI:bM k.proc 0 c.procs<0
  ·rw [qDt hI,qCt];exact VV
  rw [qDf hI,qCf];obtain ⟨i,hi,e,_⟩:=c7 (p:=k.proc) (l:=c.procs) (k:=0) (by omega);have ei:(bM k.proc 0 c.procs).toNat=i:=by rw [e];omega
  rw [ei];clear ei e hI;have h8:=hci.len;by_cases h2:k.kind=2
  ·rw [qDt h2,qCt];unfold bX;cases hw:(Wk.pc ⟨c,[]⟩ i).waiting with
   | true=>exact Nat.zero_le _
   | false =>
    cases hq:m6 k.req with
    | false=>exact Nat.zero_le _
    | true =>
     by_cases hr:fW c.queues k.req.expr=0
     ·exact UK
     ·rw [qDf hr];exact VV
  rw [qDf h2,qCf];by_cases h3:k.kind=3
  ·rw [qDt h3,qCt];cases hw:(Wk.pc ⟨c,[]⟩ i).waiting with
   | false=>exact Nat.zero_le _
   | true =>
    obtain ⟨k1,_,k3,k4,_⟩:=b9 (w:=⟨c,[]⟩) hci hi hw;have hi2:i<(ai ⟨c,[]⟩ i).c.procs.length:=by rw [k3.len];exact hi
    obtain ⟨n1,_,_⟩:=eL k1 hi2 (by rw [bh hi2];simp [k4]);have hev:=dM ⟨c,[]⟩ i;have e0:([]:List Ev).length=0:=rfl;exact Vg
  rw [qDf h3,qCf];by_cases h4:k.kind=4
  ·rw [qDt h4,qCt];unfold dG;cases hw:(Wk.pc ⟨c,[]⟩ i).waiting with
   | true=>exact Nat.zero_le _
   | false =>
    by_cases hl:aC (Wk.pc ⟨c,[]⟩ i).led.entries k.name=⟨0,0⟩
    ·rw [qDt hl];exact VV
    ·rw [qDf hl];have hm:=(jQ (w:=⟨c,[]⟩) hci hi hw hl).1;have hL:=fH c.queues (Wk.pc ⟨c,[]⟩ i).proc ⟨k.name,⟨0,0⟩⟩;have:=gH (n:=18) hm (by
      show ((Wk.mk c []).take (bD c.queues (Wk.pc ⟨c,[]⟩ i).proc ⟨k.name,⟨0,0⟩⟩).1 (bD c.queues (Wk.pc ⟨c,[]⟩ i).proc ⟨k.name,⟨0,0⟩⟩).2.1).ev.length<=_;rw [jS];have e0:(Wk.mk c []).ev.length=0:=rfl;omega)
     show (bw (qd ⟨c,[]⟩ i k.name)).ev.length<=_;omega
  rw [qDf h4,qCf];by_cases h5:k.kind=5
  ·rw [qDt h5,qCt];cases (Wk.pc ⟨c,[]⟩ i).waiting <;> cases decide ((da (Wk.pc ⟨c,[]⟩ i).led k.n).2=0) <;> exact Nat.zero_le _
  rw [qDf h5,qCf];by_cases h6:k.kind=6
  ·rw [qDt h6,qCt];unfold cu;by_cases hu:(cQ (Wk.pc ⟨c,[]⟩ i).led k.n).2.2=0
   ·rw [qDt hu];have hm:=(je (w:=⟨c,[]⟩) hci hi hu).2.1;have hA:(jI ⟨c,[]⟩ i).ev.length<=280:=by
     unfold jI;cases (Wk.pc ⟨c,[]⟩ i).waiting with
     | false=>exact Nat.zero_le _
     | true=>exact dM ⟨c,[]⟩ i
    have hinv:=hci.inv _ (List.getElem_mem hi);exact UN
   ·rw [qDf hu];exact VV
  rw [qDf h6,qCf];cases h8':decide (k.kind=8) && (Wk.pc ⟨c,[]⟩ i).waiting with
  | true=>exact Nat.zero_le _
  | false =>
   have hr:=nE c.queues (Wk.pc ⟨c,[]⟩ i).proc;have:=gH (n:=1001) (qg (w:=⟨c,[]⟩) hci hi) (by
    unfold J0;rw [g6];simp only [List.length_append,List.length_nil];omega)
   show (bw (J0 ⟨c,[]⟩ i)).ev.length<=_;omega
theorem xD {c:Cs} {k:Cm} (he:(cy c k).2.2=0):(cy c k).2.1.length<=100000:=by
 obtain ⟨hc,h0⟩:=iQ he;rw [mi hc h0];exact Pu hc
theorem Kx (l:List Int) (n m:Int):FSpec prog 8 [.one (.sl km l),lw n,lw m] [] [] (.b true) []:=by
 refine a7 func8 ?_;have kA:=jF;obtain ⟨bl,hbl⟩:∃b,decide (l.length<=300)=b:=⟨_,rfl⟩;have kL:=ka l hbl;cases bl with
 | false =>
  exact UG
 | true =>
  by_cases hn:0<=n/\0<=m/\n<=500/\m<=500
  case neg =>
   exact Wd
  have hl:=of_decide_eq_true hbl;obtain ⟨W,hW⟩:=qGe (i6 l);have kC:=jr l hl (jV l) hW;have hv:cG W=true:=hW▸gB l;have hs:W.now<=304000:=hW▸zr l hl;obtain ⟨D1,h1⟩:∃R,cy W ⟨9,⟨0,0,0⟩,Rq.zero,⟨#[]⟩,n⟩=R:=⟨_,rfl⟩;obtain ⟨D2,h2⟩:∃R,cy D1.1 ⟨9,⟨0,0,0⟩,Rq.zero,⟨#[]⟩,m⟩=R:=⟨_,rfl⟩;obtain ⟨D3,h3⟩:∃R,cy W ⟨9,⟨0,0,0⟩,Rq.zero,⟨#[]⟩,n+m⟩=R:=⟨_,rfl⟩;have k1:=FJ 2 W _ h1;have k2:=FJ 2 D1.1 _ h2;have k3:=FJ 2 W _ h3;have hp:=Fb (c:=W) (k:=⟨9,⟨0,0,0⟩,Rq.zero,⟨#[]⟩,n⟩) (k':=⟨9,⟨0,0,0⟩,Rq.zero,⟨#[]⟩,m⟩) (k'':=⟨9,⟨0,0,0⟩,Rq.zero,⟨#[]⟩,n+m⟩) rfl rfl rfl rfl hv hn.1 hn.2.1 (by show n+m<=1000;omega) (by show W.now+n+m<=1073741824;omega);have hE:=xD (c:=W) (k:=⟨9,⟨0,0,0⟩,Rq.zero,⟨#[]⟩,n⟩) hp.1;have hF:=xD (c:=(cy W ⟨9,⟨0,0,0⟩,Rq.zero,⟨#[]⟩,n⟩).1) (k:=⟨9,⟨0,0,0⟩,Rq.zero,⟨#[]⟩,m⟩) hp.2.1;rw [h1] at hE hF;rw [h2] at hF;rw [h1,h2,h3] at hp;clear h1 h2 h3 hW hbl hl hs hv;obtain ⟨X,E,e⟩:=D1;obtain ⟨Y,F,f⟩:=D2;obtain ⟨Z,G,g⟩:=D3;obtain ⟨e1,e2,e3,e4,e5⟩:=hp;dsimp only at *
  obtain rfl:e=0:=e1;obtain rfl:f=0:=e2;obtain rfl:g=0:=e3;obtain rfl:Y=Z:=e4;obtain rfl:E++F=G:=e5;have kS:=Ha 2 Y;have kE:=I3 (E++F);repeat' (first|refine av ?_ ?_|(refine aa 9 rfl ?_;first|(refine cB [] kL ?_)|(refine cC [] kC ?_)|(refine cC [] k1 ?_)|(refine cC [] k2 ?_)|(refine cC [] k3 ?_)|(refine cB [] kA ?_)|(refine cB [] kS ?_)|(refine cB [88] kE ?_))|refine aq ?_|exact aw|(refine ap fun hb=>?_;first|(exfalso;omega)|skip)|exact bg|fail)
end Go.Proofs.YthpgjkjgkhjjlaaGreatDoor
