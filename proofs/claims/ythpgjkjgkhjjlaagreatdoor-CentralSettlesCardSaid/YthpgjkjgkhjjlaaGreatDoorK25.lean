/- Part K25 of a proof of statements of chapter 15 (no condition). -/
import Derived.Test.YthpgjkjgkhjjlaaGreatDoorK21
import Derived.Test.YthpgjkjgkhjjlaaGreatDoorK24
set_option linter.unusedVariables false
set_option linter.unusedSimpArgs false
set_option maxRecDepth 100000
set_option maxHeartbeats 64000000
namespace Go.Proofs.YthpgjkjgkhjjlaaGreatDoor
open Go.RowKit Go.Proofs.Tryz
theorem jC (l:List Qu) (n:ByteArray) {k:Int} (hk:bG n 0 l=k):FSpec prog 114 [.one (.sl eh l),.one (.sc (.string n))] [] [] (.i k) []:=by
 refine a7 func114 ?_;refine aY (fun c ρ a w hr=>bV (t:=0) hr rfl) (fun hl0=>?_);refine ao ?_;refine ab (fun i=>i<=l.length/\bG n i (l.drop i)=k) (fun i=>bP [] [(1,.c (.sc (.string n))),(7,.c (.sl eh l)),(8,.i l.length),(9,.i i)] []) (fun i=>l.length-i) 0 ⟨Nat.zero_le _,hk⟩ aT ?_;rintro i ⟨hi,hs⟩;by_cases hlt:i<l.length
 ·rw [qDc hlt,gt] at hs;repeat' (first|refine av ?_ ?_|refine aq ?_|exact aw|refine ap fun hb=>?_)
  ·exact Vz
  ·refine ⟨i+1,⟨by omega,by rw [<-hs,beq_false_of_ne hb];rfl⟩,by omega,?_⟩;exact aT
 ·exact U5
theorem Cr (l:List Qu) (hm:l.length<=12) (h8:∀q∈l,fU q):FSpec prog 73 [.one (.sl eh l)] [] [] (.c (.sl gK (aO l))) []:=by
 obtain ⟨R,hR⟩:=qGe (lC l);have hRl:R.length<=288:=by rw [<-hR];have:=xP l h8;omega
 unfold aO;rw [hR];refine a7 func73 ?_;refine ao ?_;refine cj 3 1000 40 gK rfl rfl rfl ?_;refine ab (fun x:Nat×List Pr=>x.1<=l.length/\x.2++lC (l.drop x.1)=R) (fun x=>bP [1000] [(3,.c (.own 1000)),(6,.c (.sl eh l)),(7,.i l.length),(8,.i x.1)] [(1000,.arr 40 gK x.2)]) (fun x=>l.length-x.1) (0,[]) ⟨Nat.zero_le _,hR⟩ aT ?_;rintro ⟨i,out⟩ ⟨hi,hs⟩;dsimp only at *
 have hol:out.length<=288:=by have:=congrArg List.length hs;simp at this;omega
 by_cases hlt:i<l.length
 ·rw [qDc hlt,yD,<-List.append_assoc] at hs;have hq:=h8 _ (List.getElem_mem hlt);have hql:=oI hq;have kP:=Cn l[i] hq.1 hq.2.1 hq.2.2;clear h8;refine ao ?_;refine ⟨(i+1,out++gq l[i]),⟨by dsimp only;omega,hs⟩,by dsimp only;omega,?_⟩;exact bo (qf [(1000,15)])
 ·rw [qDn (by omega)] at hs;obtain rfl:out=R:=by rw [<-hs];simp [lC]
  repeat' (first|refine av ?_ ?_|((fail_if_success (first|refine m8 7 ?_|refine m9 7 ?_));refine aq ?_)|exact aw|refine ap fun hb=>?_)
  refine gU 1000 rfl ?_;have:=L6 out (by omega);exact UG
theorem xr (l:List Qu):FSpec prog 70 [.one (.sl eh l)] [] [] (.b (di l)) []:=by
  obtain ⟨v,hv⟩:=qGe (di l);rw [hv];have hparts:gu l=true->l.length<=8/\∀q∈l,ay q=true:=Eu;unfold di gu at hv;unfold gu at hparts;refine a7 func70 ?_;refine aY (fun c ρ a w hr=>bV (t:=0) hr rfl) (fun hl0=>?_);by_cases h8:8<l.length
  · rw [qDf (by omega)] at hv
    obtain rfl:false=v:=hv;exact UG
  rw [qDt (by omega),Bool.true_and] at hv hparts;refine ao ?_;refine ab (fun i=>i<=l.length/\mN (xQ l i) (l.drop i)=mN none l) (fun i=>bP [] [(0,.c (.sl eh l)),(8,.c (.sl eh l)),(9,.i l.length),(10,.i i)] []) (fun i=>l.length-i) 0 ⟨Nat.zero_le _,rfl⟩ aT ?_;rintro i ⟨hi,hs⟩;have fin:mN none l=false->false=v:=fun h=>by rw [<-hv,h];rfl
  by_cases hlt:i<l.length
  · rw [qDc hlt,eM] at hs
    rcases Nat.eq_zero_or_pos i with h0|h0
    · subst h0
      rw [xR] at hs;have:=dl l[0];repeat' (first|refine av ?_ ?_|refine gV ?_|refine aq ?_|exact aw|(refine ap fun hb=>?_;first|(simp at hb;done)|skip))
      all_goals first
        | (obtain rfl:=fin (by rw [<-hs];simp [*])
           refine cc (qf []) ?_;exact af)
        | (refine ⟨1,⟨by omega,by rw [<-hs,lD hlt rfl];simp [*,Hf]⟩,by omega,?_⟩
           exact aT)
    · obtain ⟨m,hm⟩:=qGe (l[i-1])
      have hgm:l[((i:Int)-1).toNat]? = some m:=by rw [show ((i:Int)-1).toNat=i-1 by omega,qGg (by omega),hm]
      rw [Ax h0 (by omega) hm] at hs;have:=dl l[i];repeat' (first|refine av ?_ ?_|refine gV ?_|refine aq ?_|exact aw|(refine ap fun hb=>?_;first|(omega)|skip))
      all_goals first
        | (obtain rfl:=fin (by rw [<-hs];simp [*,Hf])
           refine cc (qf []) ?_;exact af)
        | (refine ⟨i+1,⟨by omega,by rw [<-hs,lD hlt rfl];simp [*,Hf]⟩,by omega,?_⟩
           exact aT)
  · rw [qDn (by omega)] at hs
    have hs:true=mN none l:=hs;rw [<-hs] at hv hparts;obtain ⟨_,hq⟩:=hparts rfl;have kP:=Cr l (by omega) (fun q h=>df (hq q h));clear fin hparts hq;refine ao ?_;refine eU ?_;rw [<-hv];simp;try omega
theorem QY (t:List Qu) (p:Pr) (hl:t.length<=100000):FSpec prog 198 [.one (.sl eh t),p.a] [] [] (.c (.sl c6 (db t p))) []:=by
 refine a7 func198 ?_;refine ao ?_;refine cj 5 1000 44 c6 rfl rfl rfl ?_;refine ab (fun x:Nat×List Tm=>x.1<=t.length/\x.2.length<=x.1/\x.2++db (t.drop x.1) p=db t p) (fun x=>bP [3,1000] [(3,.c (.ptr 3 0)),(5,.c (.own 1000)),(9,.c (.sl eh t)),(10,.i t.length),(11,.i x.1)] [lV 3 p,(1000,.arr 44 c6 x.2)]) (fun x=>t.length-x.1) (0,[]) ⟨Nat.zero_le _,Nat.le_refl _,rfl⟩ aT ?_;rintro ⟨i,acc⟩ ⟨hi,hal,hs⟩;dsimp only at *
 by_cases hlt:i<t.length
 ·have e:db (t.drop i) p=(bif aR (ah t[i].holds p) then [] else [⟨t[i].res.name,ah t[i].holds p⟩])++db (t.drop (i+1)) p:=by
   rw [qDc hlt];unfold db;rw [List.map_cons,List.filter_cons];cases aR (ah t[i].holds p) <;> rfl
  rw [e] at hs;obtain ⟨h,hh⟩:=qGe (ah t[i].holds p);have kH:=fF t[i] p;rw [hh] at hs kH;repeat' (first|refine av ?_ ?_|(refine aa 8 rfl ?_;refine be (ae rfl rfl (aH rfl rfl) (aN [⟨t[i].res.name,h⟩] rfl rfl rfl rfl) rfl aQ aQ) rfl rfl rfl ?_)|refine aa 9 rfl (cB [] kH ?_)|refine aq ?_|exact aw|refine ap fun hb=>?_)
  ·refine ⟨(i+1,acc++[⟨t[i].res.name,h⟩]),⟨by dsimp only;omega,by simp;omega,?_⟩,by dsimp only;omega,?_⟩
   ·rw [<-hs];simp [aR,hb]
   ·exact bo (qf [(1000,28)])
  ·refine ⟨(i+1,acc),⟨by dsimp only;omega,by dsimp only;omega,?_⟩,by dsimp only;omega,?_⟩
   ·rw [<-hs];simp [aR,hb]
   ·exact aT
 ·have e:acc=db t p:=by rw [<-hs,qDn (by omega)];simp [db]
  refine ao ?_;rw [<-e];exact U4
theorem Mf (t:List Qu) (p:Pr) (hl:t.length<=100000) (h8:∀q∈t,fU q):FSpec prog 196 [.one (.sl eh t),p.a] [] [] (.c (.sl c6 (bW p t))) []:=by
 refine a7 func196 ?_;refine ao ?_;refine cj 5 1000 44 c6 rfl rfl rfl ?_;refine ab (fun x:Nat×List Tm=>x.1<=t.length/\x.2.length<=x.1/\x.2++bW p (t.drop x.1)=bW p t) (fun x=>bP [3,1000] [(3,.c (.ptr 3 0)),(5,.c (.own 1000)),(10,.c (.sl eh t)),(11,.i t.length),(12,.i x.1)] [lV 3 p,(1000,.arr 44 c6 x.2)]) (fun x=>t.length-x.1) (0,[]) ⟨Nat.zero_le _,Nat.le_refl _,rfl⟩ aT ?_;rintro ⟨i,acc⟩ ⟨hi,hal,hs⟩;dsimp only at *
 by_cases hlt:i<t.length
 ·rw [qDc hlt] at hs;have hq:=h8 _ (List.getElem_mem hlt);cases hw:aj t[i] p with
  | some a =>
   rw [show bW p (t[i] :: t.drop (i+1))=⟨t[i].res.name,a⟩ :: bW p (t.drop (i+1)) by simp [bW,hw]] at hs;have kW:=fG t[i] p hq.2.1 hq.2.2 hw;clear h8;repeat' (first|refine av ?_ ?_|(refine aa 8 rfl ?_;refine be (ae rfl rfl (aH rfl rfl) (aN [⟨t[i].res.name,a⟩] rfl rfl rfl rfl) rfl aQ aQ) rfl rfl rfl ?_)|refine aa 9 rfl (cB [] kW ?_)|refine aq ?_|exact aw|refine ap fun hb=>?_)
   refine ⟨(i+1,acc++[⟨t[i].res.name,a⟩]),⟨by dsimp only;omega,by simp;omega,?_⟩,by dsimp only;omega,?_⟩
   ·rw [<-hs];simp
   ·exact bo (qf [(1000,30)])
  | none =>
   rw [show bW p (t[i] :: t.drop (i+1))=bW p (t.drop (i+1)) by simp [bW,hw]] at hs;have kW:=fG t[i] p hq.2.1 hq.2.2 hw;clear h8;refine ao ?_;refine ⟨(i+1,acc),⟨by dsimp only;omega,by dsimp only;omega,?_⟩,by dsimp only;omega,?_⟩
   ·rw [<-hs]
   ·exact aT
 ·have e:acc=bW p t:=by rw [<-hs,qDn (by omega)];simp [bW]
  refine ao ?_;rw [<-e];exact U4
theorem QZ (t:List Qu) (n:ByteArray):FSpec prog 210 [.one (.sl eh t),.one (.sc (.string n))] [] [] (.tup [iV (bif di t && decide (0<=bG n 0 t) then bG n 0 t else 0),iV (bif !di t then 2 else bif decide (bG n 0 t<0) then 10 else 0)]) []:=by
 obtain ⟨k,hk⟩:=qGe (bG n 0 t);rw [hk];obtain ⟨r1,h1⟩:=qGe ((bif di t && decide (0<=k) then k else 0));obtain ⟨r2,h2⟩:∃r2:Int,(bif !di t then 2 else bif decide (k<0) then 10 else 0)=r2:=⟨_,rfl⟩;rw [h1,h2];refine a7 func210 ?_;have:=xr t;have:=jC t n hk;repeat' (first|refine av ?_ ?_|refine gV ?_|refine aq ?_|exact aw|refine ap fun hb=>?_)
 ·obtain rfl:0=r1:=by rw [<-h1];simp [*]
  obtain rfl:2=r2:=by rw [<-h2];simp [*]
  exact VU
 ·obtain rfl:0=r1:=by rw [<-h1,qDf (show ¬0<=k by omega),Bool.and_false];rfl
  obtain rfl:10=r2:=by rw [<-h2];simp [*]
  exact VU
 ·have ht:di t=true:=by assumption
  obtain rfl:k=r1:=by rw [<-h1,ht,qDt (show 0<=k by omega)];rfl
  obtain rfl:0=r2:=by rw [<-h2,ht,qDf (show ¬k<0 by omega)];rfl
  exact VU
structure CatOk (l:List Rs):Prop where
 len:l.length<=8
 ok:∀x∈l,iB x=true
 asc:∀i (h:i+1<l.length),jN (l[i]'(by omega)).name l[i+1].name=true
theorem Mm {t:List Qu} (h:di t=true):CatOk (bI t):=by
 have hp:=bi h;refine ⟨by simp [bI];exact hp.1,fun x hx=>?_,fun i hi=>?_⟩
 ·obtain ⟨q,hq,rfl⟩:=List.mem_map.1 hx;exact (aP (cP h hq)).res
 ·have:=(mY hp.2.1).1;have hi':i+1<t.length:=by simpa [bI] using hi
  have h2:=(List.pairwise_iff_getElem.1 this) i (i+1) (by simp [ef];omega) (by simp [ef];omega) (by omega);simpa [ef,bI] using h2
theorem Sy {a b:ByteArray} (h:jN a b=true):(!Op.bytesLess a.toList b.toList)=false:=by
 unfold jN at h;rw [h];rfl
theorem od (l:List Rs) (hc:CatOk l):FSpec prog 76 [.one (.sl dQ l)] [] [] (.b true) []:=by
 refine a7 func76 ?_;have h8:=hc.len;refine ao ?_;refine ab (fun i=>i<=l.length) (fun i=>bP [] [(0,.c (.sl dQ l)),(3,.i i)] []) (fun i=>l.length-i) 0 (Nat.zero_le _) aT ?_;intro i hi;by_cases hlt:i<l.length
 ·have hv:=hc.ok _ (List.getElem_mem hlt);rcases Nat.eq_zero_or_pos i with h0|h0
  ·subst h0;have:=Ef (l[0]'(by omega));refine ao ?_;refine ⟨0+1,by omega,by omega,?_⟩;exact aT
  ·obtain ⟨y,hy⟩:∃y,l[((i:Int)-1).toNat]? = some y:=⟨_,qGg (by omega)⟩;have hlt2:(!Op.bytesLess y.name.toList l[i].name.toList)=false:=by
    refine Sy ?_;have:=hc.asc (i-1) (by omega);rw [show ((i:Int)-1).toNat=i-1 by omega,qGg (by omega)] at hy;rw [Option.some.inj hy] at this;simpa [show i-1+1=i by omega] using this
   have:=Ef l[i];repeat' (first|refine av ?_ ?_|refine gV ?_|refine aq ?_|exact aw|(refine ap fun hb=>?_;first|(exact Bool.noConfusion ((congrArg (!·) hb).symm.trans hlt2))|skip))
   exact U0
 ·skip
  exact UG
def oE (n:ByteArray) (t:List Qu):Rs:=bif bd t n then (bf t n).res else ⟨⟨#[]⟩,0,0,0⟩
theorem yL {n:ByteArray}:∀{t:List Qu} {k:Nat},bG n k t = -1\/∃i,∃h:i<t.length,bG n k t=((k+i:Nat):Int)/\t[i].res.name.toList == n.toList/\∀j (hj:j<i),(t[j].res.name.toList == n.toList)=false
 | [],_=>.inl rfl
 | q :: l,k=>by
  unfold bG;cases hq:q.res.name.toList == n.toList with
  | true=>exact .inr ⟨0,by simp,by simp,by simpa using hq,fun j hj=>absurd hj (Nat.not_lt_zero _)⟩
  | false =>
   rcases yL (n:=n) (t:=l) (k:=k+1) with h|⟨i,hi,h1,h2,h3⟩
   ·exact .inl (by simpa using h)
   ·refine .inr ⟨i+1,by simpa using hi,by rw [qCf,h1];congr 1;omega,by simpa using h2,fun j hj=>?_⟩;cases j with
    | zero=>simpa using hq
    | succ j=>simpa using h3 j (by omega)
theorem A9 {n:ByteArray}:∀{t:List Qu} {k:Nat},bG n k t<0->∀j (hj:j<t.length),(t[j].res.name.toList == n.toList)=false
 | [],_,_,j,hj=>by simp at hj
 | q :: l,k,h,j,hj=>by
  unfold bG at h;cases hq:q.res.name.toList == n.toList with
  | true=>rw [hq,qCt] at h;omega
  | false =>
   rw [hq,qCf] at h;cases j with
   | zero=>simpa using hq
   | succ j=>simpa using A9 h j (by simpa using hj)
theorem Mn (t:List Qu) (n:ByteArray):FSpec prog 277 [.one (.sl dQ (bI t)),.one (.sc (.string n))] [] [] (.tup [(oE n t).a,.one (.sc (.bool (bd t n)))]) []:=by
 refine a7 func277 ?_;obtain ⟨L,hL⟩:=qGe (bI t);rw [hL];have hLl:L.length=t.length:=by rw [<-hL];simp [bI]
 have hLg:∀i (h:i<L.length),L[i]=(t[i]'(by omega)).res:=by intro i h;simp [<-hL,bI]
 refine aY (fun c ρ a w hr=>bV (t:=0) hr rfl) (fun hl0=>?_);by_cases hf:bG n 0 t<0
 ·have hall:=A9 hf;have hh:bd t n=false:=by simp [bd];omega
  rw [show oE n t=⟨⟨#[]⟩,0,0,0⟩ by simp [oE,hh],hh];refine ao ?_;refine ab (fun i=>i<=L.length) (fun i=>bP [4] [(0,.c (.sl dQ L)),(1,.c (.sc (.string n))),(4,.c (.ptr 4 0)),(6,.i i)] [(4,.box 63 [.sc (.string ⟨#[]⟩),.sc (.int .i64 0),.sc (.int .i64 0),.sc (.int .i64 0)])]) (fun i=>L.length-i) 0 (Nat.zero_le _) aT ?_;intro i hi;by_cases hlt:i<L.length
  ·have h1:=hall i (by omega);rw [<-congrArg Rs.name (hLg i hlt)] at h1;repeat' (first|refine av ?_ ?_|refine aq ?_|exact aw|(refine ap fun hb=>?_;first|(exact Bool.noConfusion (((beq_iff_eq.2 hb).symm.trans h1):true=false))|(exact hb.elim)|skip))
   exact U0
  ·skip
   refine ao ?_
   (refine fE (qf []) ?_;exact af)
 ·rcases yL (n:=n) (t:=t) (k:=0) with h|⟨k,hk,hF,h2,h3⟩
  ·omega
  have hh:bd t n=true:=by simp [bd];omega
  have hq:bf t n=t[k]:=by
   obtain ⟨j,hj,hF2,hq,_⟩:=eC hf;have:j=k:=by rw [hF] at hF2;omega
   subst this;exact hq
  rw [show oE n t=t[k].res by simp [oE,hh,hq],hh];refine ao ?_;refine ab (fun i=>i<=k) (fun i=>bP [4] [(0,.c (.sl dQ L)),(1,.c (.sc (.string n))),(4,.c (.ptr 4 0)),(6,.i i)] [(4,.box 63 [.sc (.string ⟨#[]⟩),.sc (.int .i64 0),.sc (.int .i64 0),.sc (.int .i64 0)])]) (fun i=>L.length-i) 0 (Nat.zero_le _) aT ?_;intro i hi;have hlt:i<L.length:=by omega
  by_cases hik:i=k
  ·subst hik;have h1:=h2;rw [<-hLg i hlt] at h1 ⊢;rw [beq_iff_eq] at h1;refine ao ?_
   (refine fE (qf []) ?_;exact af)
  ·have h1:=h3 i (by omega);rw [<-congrArg Rs.name (hLg i hlt)] at h1;repeat' (first|refine av ?_ ?_|refine aq ?_|exact aw|(refine ap fun hb=>?_;first|(exact Bool.noConfusion (((beq_iff_eq.2 hb).symm.trans h1):true=false))|skip))
   exact U0
def RQ (l:List Pc):Prop:=∀x∈l,(-1000000000000<=x.since/\x.since<=1000000000000)/\-1000000000000<=x.req.limit/\x.req.limit<=1000000000000
theorem yS (now:Int) (k:Nat) (x:Pc) (l:List Pc) (b:Int×Int):gh now k (x :: l) b=gh now (k+1) l (bif x.waiting && !decide (x.req.limit=0) && decide (x.since+x.req.limit<=now) && (decide (b.1<0) || decide (x.since+x.req.limit<b.2)) then ((k:Int),x.since+x.req.limit) else b):=rfl
theorem EL (d:Nat) (w:Wk) (h8:w.c.procs.length<=100000) (hx:RQ w.c.procs):FSpec prog 157 [go] (HI d w) [3,4] (.i (cA w)) (HO d w):=by
 refine a7 func157 ?_;obtain ⟨E,hE⟩:=qGe (gh w.c.now 0 w.c.procs (-1,0));rw [show cA w=E.1 from congrArg Prod.fst hE];refine ao ?_;refine ab (fun y:Nat×Int×Int=>y.1<=w.c.procs.length/\gh w.c.now y.1 (w.c.procs.drop y.1) y.2=E) (fun y=>bP [0,1,2] [(0,.v go),(3,.i y.2.1),(4,.i y.2.2),(5,.i y.1)] [(0,.box 113 (KB w 1 2)),(1,.arr 82 (fR d) w.c.procs),(2,.arr 68 fX w.ev)]) (fun y=>w.c.procs.length-y.1) (0,-1,0) ⟨Nat.zero_le _,hE⟩ aT ?_;rintro ⟨i,b⟩ ⟨hi,hs⟩;dsimp only at *
 by_cases hlt:i<w.c.procs.length
 case neg =>
  obtain rfl:b=E:=by rw [<-hs,qDn (by omega)];rfl
  refine ao ?_
  (refine cc (qf [(3,1),(4,2)]) ?_;exact af)
 obtain ⟨x,hxe⟩:=qGe (w.c.procs[i]);have hgx:w.c.procs[i]? = some x:=by rw [qGg hlt,hxe]
 obtain ⟨⟨k1,k2⟩,k3,k4⟩:=hx x (hxe▸List.getElem_mem hlt);rw [qDc hlt,hxe,yS] at hs;by_cases hc:(x.waiting && !decide (x.req.limit=0) && decide (x.since+x.req.limit<=w.c.now) && (decide (b.1<0) || decide (x.since+x.req.limit<b.2)))=true
 ·rw [hc,qCt] at hs;simp only [qBa,Bool.or_eq_true,Bool.not_eq_true',decide_eq_true_eq,decide_eq_false_iff_not] at hc;obtain ⟨⟨⟨c1,c2⟩,c3⟩,c4⟩:=hc;repeat' (first|refine av ?_ ?_|refine aq ?_|exact aw|refine ap fun hb=>?_)
  all_goals refine ⟨(i+1,(i:Int),x.since+x.req.limit),⟨by dsimp only;omega,hs⟩,by dsimp only;omega,?_⟩
  all_goals exact aT
 ·rw [Bool.eq_false_iff.2 hc,qCf] at hs;repeat' (first|refine av ?_ ?_|refine aq ?_|exact aw|refine ap fun hb=>?_)
  all_goals first|(exfalso;refine hc ?_;simp only [qBa,Bool.or_eq_true,Bool.not_eq_true',decide_eq_true_eq,decide_eq_false_iff_not];refine ⟨⟨⟨?_,?_⟩,?_⟩,?_⟩ <;> first|assumption|(left;assumption)|(right;assumption))|(refine ⟨(i+1,b),⟨by dsimp only;omega,hs⟩,by dsimp only;omega,?_⟩;exact aT)
def vH (t:List Qu) (a:Tm):Int:=bif !bd t a.name then 10 else bif !aS (bf t a.name).res a.am then 12 else 0
theorem sI (t:List Qu) (n:ByteArray) {b:Bool} {r:Rs} (h:bd t n=b) (h2:oE n t=r):FSpec prog 277 [.one (.sl dQ (bI t)),.one (.sc (.string n))] [] [] (.tup [r.a,.one (.sc (.bool b))]) []:=h▸h2▸Mn t n
theorem SF (t:List Qu) (a:Tm) (hV:di t=true):FSpec prog 226 [.one (.sl dQ (bI t)),a.a] [] [] (.i (vH t a)) []:=by
 refine a7 func226 ?_;have hc:=Mm hV;cases hh:bd t a.name with
 | false =>
  have hr:oE a.name t=⟨⟨#[]⟩,0,0,0⟩:=by simp [oE,hh]
  rw [show vH t a=10 by simp [vH,hh]];have:=od (bI t) hc;have:=sI t a.name hh hr;exact UG
 | true =>
  have hr:oE a.name t=(bf t a.name).res:=by simp [oE,hh]
  cases hf:aS (bf t a.name).res a.am with
  | false =>
   rw [show vH t a=12 by simp [vH,hh,hf]];have:=od (bI t) hc;have:=sI t a.name hh hr;have:=jz (bf t a.name).res a.am;exact UG
  | true =>
   rw [show vH t a=0 by simp [vH,hh,hf]];have:=od (bI t) hc;have:=sI t a.name hh hr;have:=jz (bf t a.name).res a.am;exact UG
theorem GB (t:List Qu) (a:Tm) (l:List Tm):gg t (a :: l)=bif !decide (vH t a=0) then vH t a else gg t l:=by
 rw [show gg t (a :: l)=bif !bd t a.name then 10 else bif !aS (bf t a.name).res a.am then 12 else gg t l from rfl];unfold vH;cases bd t a.name <;> cases aS (bf t a.name).res a.am <;> rfl
theorem Mw (t:List Qu) (a:Tm) (hV:di t=true) {e:Int} (h:vH t a=e):FSpec prog 226 [.one (.sl dQ (bI t)),a.a] [] [] (.i e) []:=h▸SF t a hV
theorem SG (d:Nat) (t:List Qu) (x:Ex) (hV:di t=true):FSpec prog 153 [.one (.sl dQ (bI t)),x.a d] [] [] (.i (fW t x)) []:=by
 refine a7 func153 ?_;have h8:=cD x;obtain ⟨L,hL⟩:=qGe (bJ x);rw [hL] at h8;cases hv:kv x with
 | false =>
  rw [show fW t x=1 by simp [fW,hv]];have:=nh d x hv hL;exact UG
 | true =>
  rw [show fW t x=gg t L by simp [fW,hv,hL]];have:=nh d x hv hL;refine ao ?_;refine ab (fun i=>i<=L.length/\gg t (L.drop i)=gg t L) (fun i=>bP [] [(0,.c (.sl dQ (bI t))),(5,.c (.sl c6 L)),(7,.i i)] []) (fun i=>L.length-i) 0 ⟨Nat.zero_le _,rfl⟩ aT ?_;rintro i ⟨hi,hs⟩;by_cases hlt:i<L.length
  ·rw [qDc hlt,GB] at hs;obtain ⟨e,he⟩:=qGe (vH t L[i]);rw [he] at hs;by_cases h0:e=0
   ·subst h0;have:=Mw t L[i] hV he;refine ao ?_;refine ⟨i+1,⟨by omega,by rw [<-hs];rfl⟩,by omega,?_⟩;exact aT
   ·rw [<-hs,qDf h0,Bool.not_false,qCt];have:=Mw t L[i] hV he;exact UG
  ·rw [<-hs,qDn (by omega),show gg t []=0 from rfl];exact UG
instance:ST prog cJ 86 4 1:=⟨ElTB.mk' underlying86 (.bool false) 1 1 (by kernel_rfl) rfl rfl⟩
theorem ID (d:Nat) (x:Ex) (L:List Tm) (set:List Bool) (hL:L.length<=1000) (hset:set.length<=1000):FSpec prog 250 [x.a d,.one (.sl c6 L),.one (.sl cJ set)] [] [] (.b (oJ (cE L set) x)) [] :=
 de (fun b W=>by kernel_rfl) rfl fun w S ρ vs hS h=>by
  match vs,h with
  | [_,_,_],⟨h1,h2,h3,_⟩ =>
   obtain ⟨A,c,rfl,hr,hc⟩:=Ex.open h1;obtain ⟨A2,c2,rfl,hc2,hr2⟩:=h2;obtain ⟨A3,c3,rfl,hc3,hr3⟩:=h3;exact (Jm d x A A2 A3 c c2 c3 w.heap.size L set w ⟨Nat.le_trans hc.1 hc.2,Nat.le_refl _,hr.lo hS⟩ (hr2.lo hS) hL (hr3.lo hS) hset).mono fun _ _=>jc
theorem IE (d:Nat) (x:Ex) (set:List Bool) (hset:set.length<=1000) {b:Bool} (hb:cM x set=b):FSpec prog 193 [x.a d,.one (.sl cJ set)] [] [] (.b b) []:=by
 refine a7 func193 ?_;unfold cM at hb;have h8:=cD x;obtain ⟨L,hL⟩:=qGe (bJ x);rw [hL] at hb h8;have kA:=mg d x hL;have kh:=ID d x L set (by omega) hset;obtain ⟨v,hv⟩:=qGe (oJ (cE L set) x);rw [hv] at hb kh;cases hx:kv x with
 | false =>
  obtain rfl:[]=L:=by rw [<-hL,sd hx]
  obtain rfl:false=b:=by rw [<-hb,hx];rfl
  exact UG
 | true =>
  obtain ⟨_,_,_,h0,_⟩:=oK hx;rw [hL] at h0;obtain rfl:v=b:=by rw [<-hb,hx];rfl
  exact UG
theorem Ka {set:List Bool} {n:Nat} (h:set.length=n):((List.range n).map fun i=>set.getD i false)=set:=by
 apply List.ext_getElem
 ·simp [h]
 ·intro i h1 h2;simp [List.getD_eq_getElem?_getD,h2]
theorem Rb (d:Nat) (x:Ex) (set:List Bool) (hset:set.length=(bJ x).length) {P:List Bool} (hP:bz x set=P):FSpec prog 260 [x.a d,.one (.sl cJ set)] [] [] (.c (.sl cJ P)) []:=by
 refine a7 func260 ?_;have hmk:prog.underlying 86=some (.slice 4):=underlying86;have hib:(prog.info? 4).map (fun i=>(i.zero,i.size,i.bytes))=some (some (.bool false),1,1):=by kernel_rfl
 cases hv:kv x with
 | false =>
  have hL:=sd hv;obtain rfl:[]=P:=by rw [<-hP];simp [bz,cM,hv,hL]
  repeat' (first|refine av ?_ ?_|refine aa 9 rfl (cC [] (mg d x hL) ?_)|(refine aa 20 rfl ?_;refine be (fN (E:=cJ) (y0:=false) hmk hib rfl (by decide) rfl (fun _ _=>rfl) rfl rfl rfl rfl (by first|omega|simp)) rfl rfl rfl ?_)|refine aq ?_|exact aw|(refine ap fun hb=>?_;first|(exact absurd rfl hb)|skip)|exact bg|fail)
 | true =>
  obtain ⟨hsh,_,h8,h0,_⟩:=oK hv;obtain ⟨L,hL⟩:=qGe (bJ x);rw [hL] at h8 h0 hset;have kA:=mg d x hL;have kh:=fun s (hs:s.length=L.length)=>ID d x L s (by omega) (by omega);cases hh:oJ (cE L set) x with
  | false =>
   obtain rfl:List.replicate L.length false=P:=by rw [<-hP];simp [bz,cM,hv,hL,hh]
   have k1:=kh set hset;rw [hh] at k1;repeat' (first|refine av ?_ ?_|(refine aa 9 rfl ?_;first|(refine cC [] kA ?_)|(refine cB [] k1 ?_))|(refine aa 20 rfl ?_;refine be (fN (E:=cJ) (y0:=false) hmk hib rfl (by decide) rfl (fun _ _=>rfl) rfl rfl rfl rfl (by first|omega|simp)) rfl rfl rfl ?_)|refine aq ?_|exact aw|refine ap fun hb=>?_|exact bg|fail)
  | true =>
   have hp:c9 x L L.length set=P:=by rw [<-hP];unfold bz cM;rw [hv,hL,hh,Ka hset];rfl
   have k1:=kh set hset;rw [hh] at k1;have hcp:set++(List.replicate L.length false).drop set.length=set:=by rw [qDn (by simp;omega),List.append_nil]
   repeat' (first|refine av ?_ ?_|(refine aa 9 rfl ?_;first|(refine sx (AZ rfl rfl rfl (yb rfl) (by simp;omega) (by simp;omega) hcp) ?_)|(refine cC [] kA ?_)|(refine cB [] k1 ?_))|(refine aa 20 rfl ?_;refine be (fN (E:=cJ) (y0:=false) hmk hib rfl (by decide) rfl (fun _ _=>rfl) rfl rfl rfl rfl (by first|omega|simp)) rfl rfl rfl ?_)|refine aq ?_|exact aw|(refine ap fun hb=>?_;first|(exfalso;omega)|skip))
   refine ab (fun y:Nat×List Bool=>y.1<=L.length/\y.2.length=L.length/\c9 x L y.1 y.2=P) (fun y=>bP [2,1000] [(2,.c (.ptr 2 0)),(5,.c (.sl c6 L)),(6,.c (.own 1000)),(7,.i ((y.1:Int)-1))] [(2,.box 47 (x.d d)),(1000,.arr 4 cJ y.2)]) (fun y=>y.1) (L.length,set) ⟨Nat.le_refl _,hset,hp⟩ (by exact bo (qf [(1000,12)])) ?_;rintro ⟨k,out⟩ ⟨hk,hol,hs⟩;dsimp only at *
   rcases Nat.eq_zero_or_pos k with h0|h0
   ·subst h0;obtain rfl:out=P:=hs;exact UG
   ·obtain ⟨j,rfl⟩:∃j,k=j+1:=⟨k-1,by omega⟩;obtain ⟨z,hz⟩:=qGe ((((j+1:Nat):Int)-1).toNat);have hzj:z=j:=by omega
    obtain ⟨v,hgv⟩:∃v,out[(((j+1:Nat):Int)-1).toNat]? = some v:=⟨_,qGg (by omega)⟩;have hgj:out.getD j false=v:=by rw [hz,hzj] at hgv;simp [List.getD_eq_getElem?_getD,hgv]
    have hstep:c9 x L (j+1) out=c9 x L j (bif out.getD j false then out.set j (!oJ (cE L (out.set j false)) x) else out):=rfl;rw [hstep,hgj] at hs;cases v with
    | false =>
     refine ao ?_;refine ⟨(j,out),⟨by dsimp only;omega,hol,hs⟩,by dsimp only;omega,?_⟩;exact aT
    | true =>
     obtain ⟨o1,ho1⟩:=qGe (out.set (((j+1:Nat):Int)-1).toNat false);have hl1:o1.length=L.length:=by rw [<-ho1,List.length_set,hol]
     have hg1:o1[(((j+1:Nat):Int)-1).toNat]? = some false:=by rw [<-ho1,List.getElem?_set_self (by omega)]
     have hs1:o1.set (((j+1:Nat):Int)-1).toNat true=out.set j true:=by rw [<-ho1,List.set_set,hz,hzj]
     rw [show out.set j false=o1 by rw [<-ho1,hz,hzj]] at hs;have k2:=kh o1 hl1;cases he:oJ (cE L o1) x with
     | true =>
      rw [he] at hs k2;rw [<-ho1] at k2 hg1;repeat' (first|refine av ?_ ?_|refine aa 9 rfl (cB [1000] k2 ?_)|refine aq ?_|(refine aa 4 rfl ?_;refine a8 (ak (z:=false) rfl rfl rfl rfl hgv rfl rfl rfl rfl (qNl rfl) rfl rfl) rfl rfl rfl ?_)|exact aw|refine ap fun hb=>?_)
      refine ⟨(j,o1),⟨by dsimp only;omega,hl1,by rw [<-hs,<-ho1,hz,hzj];rfl⟩,by dsimp only;omega,?_⟩;dsimp only;rw [<-ho1];exact aT
     | false =>
      rw [he] at hs k2;rw [<-ho1] at k2 hg1;repeat' (first|refine av ?_ ?_|refine aa 9 rfl (cB [1000] k2 ?_)|refine aq ?_|(refine aa 4 rfl ?_;first|(refine a8 (ak (z:=false) rfl rfl rfl rfl hgv rfl rfl rfl rfl (qNl rfl) rfl rfl) rfl rfl rfl ?_)|(refine a8 (ak (z:=true) rfl rfl rfl rfl hg1 rfl rfl rfl rfl (qNl rfl) rfl rfl) rfl rfl rfl ?_))|exact aw|refine ap fun hb=>?_)
      refine ⟨(j,out.set j true),⟨by dsimp only;omega,by simp [hol],hs⟩,by dsimp only;omega,?_⟩;dsimp only;rw [<-hs1,<-ho1];exact aT
theorem qr (d:Nat) (t:List Qu) (x:Pc) {B:List Bool} (hB:bk t x.proc x.req.expr=B):FSpec prog 67 [.one (.sl eh t),x.a d] [] [] (.c (.sl cJ B)) []:=by
 refine a7 func67 ?_;have h8:=cD x.req.expr;obtain ⟨L,hL⟩:=qGe (bJ x.req.expr);have kA:=mg d x.req.expr hL;have hBl:B.length=L.length:=by rw [<-hB];simp [bk,hL]
 have hBg:∀i (h:i<L.length),B[i]'(by omega)=(bd t L[i].name && bq (bf t L[i].name).res (ah (bf t L[i].name).holds x.proc) L[i].am):=by
  intro i h;simp only [<-hB,bk,hL,List.getElem_map]
 rw [hL] at h8;clear hB hL;refine ao ?_;refine cj 5 1000 4 cJ rfl rfl rfl ?_;refine ab (fun i=>i<=L.length) (fun i=>bP [3,1000] [(0,.c (.sl eh t)),(3,.c (.ptr 3 0)),(5,.c (.own 1000)),(12,.c (.sl c6 L)),(13,.i L.length),(14,.i i)] [(3,.box 82 (x.d d)),(1000,.arr 4 cJ (B.take i))]) (fun i=>L.length-i) 0 (Nat.zero_le _) aT ?_;intro i hi;have hol:(B.take i).length=i:=by simp;omega
 by_cases hlt:i<L.length
 ·have hb1:=hBg i hlt;have hst:B.take (i+1)=B.take i++[B[i]'(by omega)]:=List.take_succ_eq_append_getElem _;obtain ⟨a,ha⟩:=qGe (L[i]);have hga:L[i]? = some a:=by rw [qGg hlt,ha]
  rw [ha] at hb1;rw [hb1] at hst;by_cases hf:bG a.name 0 t<0
  ·rw [show bd t a.name=false by simp [bd];omega,Bool.false_and] at hst;have kF:=jC t a.name rfl;repeat' (first|refine av ?_ ?_|(refine aa 8 rfl ?_;refine be (ae rfl rfl (aH rfl rfl) (aN [false] rfl rfl rfl rfl) rfl aQ aQ) rfl rfl rfl ?_)|refine aa 9 rfl (cB [] kF ?_)|refine aq ?_|exact aw|(refine ap fun hb=>?_;first|(exfalso;omega)|skip))
   refine ⟨i+1,by omega,by omega,?_⟩;rw [hst];exact bo (qf [(1000,43)])
  ·obtain ⟨j,hj,hF,hq,hx⟩:=eC hf;rw [show bd t a.name=true by simp [bd,Int.not_lt.1 hf],Bool.true_and,show bf t a.name=t[j] from hq] at hst;have kF:=jC t a.name hF;obtain ⟨h,hh⟩:=qGe (ah t[j].holds x.proc);have kH:=fF t[j] x.proc;rw [hh] at kH hst;have kC:=gX t[j].res h a.am;obtain ⟨c,hc⟩:=qGe (bq t[j].res h a.am);rw [hc] at kC hst;repeat' (first|refine av ?_ ?_|(refine aa 8 rfl ?_;refine be (ae rfl rfl (aH rfl rfl) (aN [c] rfl rfl rfl rfl) rfl aQ aQ) rfl rfl rfl ?_)|(refine aa 9 rfl ?_;first|(refine cB [] kF ?_)|(refine cB [] kH ?_)|(refine cB [] kC ?_))|refine aq ?_|exact aw|(refine ap fun hb=>?_;first|(exfalso;omega)|skip))
   refine ⟨i+1,by omega,by omega,?_⟩;rw [hst];exact bo (qf [(1000,43)])
 ·have e:B.take i=B:=List.take_of_length_le (by omega);rw [e];exact UG
end Go.Proofs.YthpgjkjgkhjjlaaGreatDoor
