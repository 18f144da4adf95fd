/- Part K16 of a proof of statements of chapter 15 (no condition). -/
import Derived.Test.YthpgjkjgkhjjlaaGreatDoorK15
set_option linter.unusedVariables false
set_option linter.unusedSimpArgs false
set_option maxRecDepth 100000
set_option maxHeartbeats 64000000
namespace Go.Proofs.YthpgjkjgkhjjlaaGreatDoor
open Go.RowKit Go.Proofs.Tryz
instance:ST prog I9 307 42 16:=⟨ElTB.mk' underlying307 (.agg #[.int .i64 0,.int .i64 0]) 2 16 (by kernel_rfl) rfl rfl⟩
theorem kY (p q:Pr):FSpec prog 59 [p.a,q.a] [] [] (.i (cl p q)) [] :=
 de (fun b W=>by kernel_rfl) rfl fun w S ρ vs _ h=>by
  match vs,h with
  | [_,_],⟨h1,h2,_⟩=>rw [Pr.open h1,Pr.open h2];exact (FQ p q w).mono fun _ _=>jc
theorem im (p:Pr):FSpec prog 150 [p.a] [] [] (.b (jW p)) [] :=
 de (fun b W=>by kernel_rfl) rfl fun w S ρ vs _ h=>by
  match vs,h with
  | [_],⟨h1,_⟩=>rw [Pr.open h1];exact (FN p w).mono fun _ _=>jc
theorem LN (l:List Ho) (hl:l.length<=100000):FSpec prog 347 [.one (.sl gM l)] [] [] (.c (.sl I9 (js l))) []:=by
 refine a7 func347 ?_;refine ao ?_;refine cj 3 1000 42 I9 rfl rfl rfl ?_;refine ab (fun i=>i<=l.length) (fun i=>bP [1000] [(0,.c (.sl gM l)),(3,.c (.own 1000)),(4,.i i)] [(1000,.arr 42 I9 (js (l.take i)))]) (fun i=>l.length-i) 0 (Nat.zero_le _) aT ?_;intro i hi;have hlen:(js (l.take i)).length=i:=by simp [js];omega
 by_cases hlt:i<l.length
 ·have e:js (l.take (i+1))=js (l.take i)++[l[i].am]:=by unfold js;rw [List.take_succ_eq_append_getElem hlt,List.map_append];rfl
  repeat' (first|refine av ?_ ?_|(refine aa 8 rfl ?_;refine be (ae rfl rfl (aH rfl rfl) (aN [l[i].am] rfl rfl rfl rfl) rfl aQ aQ) rfl rfl rfl ?_)|refine aq ?_|exact aw|refine ap fun hb=>?_)
  refine ⟨i+1,by omega,by omega,?_⟩;rw [e];exact bo (qf [(1000,18)])
 ·obtain rfl:i=l.length:=by omega
  rw [List.take_length];exact UG
theorem n9 (r:Rs) (l:List Ho):FSpec prog 327 [r.a,.one (.sl gM l)] [] [] (.b (zX r l)) []:=by
  obtain ⟨v,hv⟩:=qGe (zX r l);rw [hv];unfold zX at hv;refine a7 func327 ?_;refine aY (fun c ρ a w hr=>bV (t:=1) hr rfl) (fun hl1=>?_);cases hs:br r && decide (l.length<=8) with
  | false =>
    rw [hs] at hv;obtain rfl:false=v:=hv;have:=n8 r;repeat' (first|refine av ?_ ?_|refine gV ?_|refine aq ?_|exact aw|refine ap fun hb=>?_|exact bg|fail)
    exfalso;revert hs;simp [*];omega
  | true =>
    rw [hs,Bool.true_and] at hv;obtain ⟨hs,h8⟩:br r=true/\l.length<=8:=by simpa using hs
    have:=n8 r;refine ao ?_;refine ab (fun i=>i<=l.length/\(xJ r (xK l i) (l.drop i) && iX r (js l))=v) (fun i=>bP [2] [(1,.c (.sl gM l)),(2,.c (.ptr 2 0)),(5,.i i)] [(2,.box 63 [.sc (.string r.name),.sc (.int .i64 r.kind),.sc (.int .i64 r.units),.sc (.int .i64 r.home)])]) (fun i=>l.length-i) 0 ⟨Nat.zero_le _,hv⟩ aT ?_;rintro i ⟨hi,hs⟩;by_cases hlt:i<l.length
    · rw [qDc hlt,As] at hs
      rcases Nat.eq_zero_or_pos i with h0|h0
      · subst h0
        rw [xL] at hs;have:=im l[0].proc;have:=jz r l[0].am;repeat' (first|refine av ?_ ?_|refine gV ?_|refine aq ?_|exact aw|(refine ap fun hb=>?_;first|(simp at hb;done)|skip))
        all_goals first
          | (obtain rfl:false=v:=by rw [<-hs];simp [*]
             refine cc (qf []) ?_;exact af)
          | (refine ⟨1,⟨by omega,by rw [<-hs,lA hlt rfl];simp [*]⟩,by omega,?_⟩
             exact aT)
      · obtain ⟨m,hm⟩:=qGe (l[i-1])
        have hgm:l[((i:Int)-1).toNat]? = some m:=by rw [show ((i:Int)-1).toNat=i-1 by omega,qGg (by omega),hm]
        rw [At h0 (by omega) hm] at hs;dsimp only at hs;have:=im l[i].proc;have:=jz r l[i].am;have:=kY m.proc l[i].proc;repeat' (first|refine av ?_ ?_|refine gV ?_|refine aq ?_|exact aw|refine ap fun hb=>?_)
        all_goals first
          | (obtain rfl:false=v:=by rw [<-hs];first|(simp [*];done)|(rw [decide_eq_false (p:=cl m.proc l[i].proc<0) (by omega)];simp)
             refine cc (qf []) ?_;exact af)
          | (refine ⟨i+1,⟨by omega,by rw [<-hs,lA hlt rfl,decide_eq_true (p:=cl m.proc l[i].proc<0) (by omega)];simp [*]⟩,by omega,?_⟩
             exact aT)
    · rw [qDn (by omega)] at hs
      obtain rfl:iX r (js l)=v:=hs;have:=LN l (by omega);have:=Oj r (js l);exact UG
theorem Ok (l:List Ho) (p:Pr):FSpec prog 24 [.one (.sl gM l),p.a] [] [] (.v (ah l p).a) []:=by
 obtain ⟨v,hv⟩:=qGe (ah l p);rw [hv];refine a7 func24 ?_;refine aY (fun c ρ a w hr=>bV (t:=0) hr rfl) (fun hl0=>?_);refine ao ?_;refine ab (fun i=>i<=l.length/\ah (l.drop i) p=v) (fun i=>bP [3,4] [(0,.c (.sl gM l)),(3,.c (.ptr 3 0)),(4,.c (.ptr 4 0)),(5,.i i)] [(3,.box 40 [.sc (.int .i64 p.site),.sc (.int .i64 p.inc),.sc (.int .i64 p.num)]),(4,.box 42 [.sc (.int .i64 0),.sc (.int .i64 0)])]) (fun i=>l.length-i) 0 ⟨Nat.zero_le _,hv⟩ aT ?_;rintro i ⟨hi,hs⟩;by_cases hlt:i<l.length
 ·rw [qDc hlt,ah] at hs;repeat' (first|refine av ?_ ?_|refine aq ?_|exact aw|refine ap fun hb=>?_)
  ·obtain rfl:l[i].am=v:=by rw [<-hs];simp [*]
   exact U4
  ·exact Vc
 ·rw [qDn (by omega)] at hs;obtain rfl:=hs;exact UG
theorem JP (l:List Ho) (p:Pr) (x:Am) (hl:l.length<=1000000):FSpec prog 25 [.one (.sl gM l),p.a,x.a] [] [] (.c (.sl gM (cw l p x))) []:=by
 obtain ⟨R,hR⟩:=qGe (cw l p x);rw [hR];unfold cw at hR;refine a7 func25 ?_;have:=gW x;refine ao ?_;refine cj 7 1000 121 gM rfl rfl rfl ?_;refine ab (fun y:Nat×Bool×List Ho=>y.1<=l.length/\y.2.2.length<=y.1+(bif y.2.1 then 1 else 0)/\y.2.2++(bif y.2.1 then fL (l.drop y.1) p else oq ⟨p,x⟩ (fL (l.drop y.1) p))=R) (fun y=>bP [4,5,1000] [(0,.c (.sl gM l)),(4,.c (.ptr 4 0)),(5,.c (.ptr 5 0)),(7,.c (.own 1000)),(8,.b y.2.1),(9,.i y.1)] [(4,.box 40 [.sc (.int .i64 p.site),.sc (.int .i64 p.inc),.sc (.int .i64 p.num)]),(5,.box 42 [.sc (.int .i64 x.mode),.sc (.int .i64 x.units)]),(1000,.arr 121 gM y.2.2)]) (fun y=>l.length-y.1) (0,aR x,[]) ⟨Nat.zero_le _,Nat.zero_le _,hR⟩ aT ?_;rintro ⟨i,dn,out⟩ ⟨hi,hol,hs⟩;dsimp only at *
 by_cases hlt:i<l.length
 ·rw [qDc hlt,nU] at hs;by_cases hp:l[i].proc=p
  ·rw [qDt hp,qCt] at hs;refine ao ?_;refine ⟨(i+1,dn,out),⟨by dsimp only;omega,by dsimp only;omega,hs⟩,by dsimp only;omega,?_⟩;exact aT
  ·rw [qDf hp,qCf,jg] at hs;cases dn with
   | true =>
    simp only [qCt] at hol;repeat' (first|refine av ?_ ?_|(refine aa 8 rfl ?_;refine be (ae rfl rfl (aH rfl rfl) (aN [l[i]] rfl rfl rfl rfl) rfl aQ aQ) rfl rfl rfl ?_)|refine aq ?_|exact aw|refine ap fun hb=>?_)
    refine ⟨(i+1,true,out++[l[i]]),⟨by dsimp only;omega,by simp;omega,by rw [<-hs];simp⟩,by dsimp only;omega,?_⟩;exact bo (qf [(1000,49)])
   | false =>
    simp only [qCf] at hol;repeat' (first|refine av ?_ ?_|(refine aa 8 rfl ?_;first|(refine be (ae rfl rfl (aH rfl rfl) (aN [⟨p,x⟩] rfl rfl rfl rfl) rfl aQ aQ) rfl rfl rfl ?_)|(refine be (ae rfl rfl (aH rfl rfl) (aN [l[i]] rfl rfl rfl rfl) rfl aQ aQ) rfl rfl rfl ?_))|refine aa 9 rfl (cB [] (kY l[i].proc p) ?_)|refine aq ?_|exact aw|refine ap fun hb=>?_)
    ·refine ⟨(i+1,true,out++[⟨p,x⟩]++[l[i]]),⟨by dsimp only;omega,by simp;omega,by rw [<-hs];simp [*]⟩,by dsimp only;omega,?_⟩;exact bo (qf [(1000,49)])
    ·refine ⟨(i+1,false,out++[l[i]]),⟨by dsimp only;omega,by simp;omega,by rw [<-hs];simp [*]⟩,by dsimp only;omega,?_⟩;exact bo (qf [(1000,49)])
 ·rw [qDn (by omega)] at hs;cases dn with
  | true =>
   simp only [qCt] at hol;obtain rfl:out=R:=by rw [<-hs];simp [fL]
   exact UG
  | false =>
   simp only [qCf] at hol;obtain rfl:out++[⟨p,x⟩]=R:=by rw [<-hs];simp [fL,oq]
   repeat' (first|refine av ?_ ?_|(refine aa 8 rfl ?_;refine be (ae rfl rfl (aH rfl rfl) (aN [⟨p,x⟩] rfl rfl rfl rfl) rfl aQ aQ) rfl rfl rfl ?_)|refine aq ?_|exact aw|refine ap fun hb=>?_|exact bg|fail)
theorem Sp (r:Rs) (l:List Ho) (p:Pr) (x:Am):FSpec prog 330 [r.a,.one (.sl gM l),p.a,x.a] [] [] (.b (gO r l p x)) []:=by
 obtain ⟨v,hv⟩:=qGe (gO r l p x);rw [hv];unfold gO Au at hv;refine a7 func330 ?_;cases hh:zX r l with
 | false =>
  rw [hh] at hv;obtain rfl:false=v:=hv;have:=n9 r l;exact UG
 | true =>
  have h8:l.length<=8:=by have:=hh;simp [zX] at this;omega
  repeat' (first|refine av ?_ ?_|(refine aa 9 rfl ?_;first|(refine cB [] (n9 r l) ?_)|(refine cB [] (im p) ?_)|(refine cB [] (jz r x) ?_)|(refine cC [] (JP l p x (by omega)) ?_)|(refine cB [] (n9 r (cw l p x)) ?_))|refine aq ?_|exact aw|(refine ap fun hb=>?_;first|(simp [hh] at hb;done)|skip))
  all_goals (refine eU ?_;rw [<-hv];simp [*])
def Wt.a (x:Wt):V0:=.ag [.sc (.int .i64 x.proc.site),.sc (.int .i64 x.proc.inc),.sc (.int .i64 x.proc.num),.sc (.int .i64 x.am.mode),.sc (.int .i64 x.am.units),.sc (.int .i64 x.prio),.sc (.int .i64 x.passed)]
theorem jA (x:Wt):FSpec prog 332 [x.a] [] [] (.b (uO x)) []:=by
 unfold uO;refine a7 func332 ?_;have:=im x.proc;have:=pV x.am;repeat' (first|refine av ?_ ?_|refine gV ?_|refine aq ?_|exact aw|refine ap fun hb=>?_)
 all_goals (refine eU ?_;simp [*])
theorem oX (l:List Wt) (p:Pr):FSpec prog 117 [.one (.sl fK l),p.a] [] [] (.i (eH l p)) []:=by
 obtain ⟨v,hv⟩:=qGe (eH l p);rw [hv];refine a7 func117 ?_;refine aY (fun c ρ a w hr=>bV (t:=0) hr rfl) (fun hl0=>?_);refine ao ?_;refine ab (fun i=>i<=l.length/\iS p i (l.drop i)=v) (fun i=>bP [3] [(0,.c (.sl fK l)),(3,.c (.ptr 3 0)),(5,.i i)] [(3,.box 40 [.sc (.int .i64 p.site),.sc (.int .i64 p.inc),.sc (.int .i64 p.num)])]) (fun i=>l.length-i) 0 ⟨Nat.zero_le _,hv⟩ aT ?_;rintro i ⟨hi,hs⟩;by_cases hlt:i<l.length
 ·rw [qDc hlt,fx] at hs;repeat' (first|refine av ?_ ?_|refine aq ?_|exact aw|refine ap fun hb=>?_)
  ·exact Vz
  ·exact Vc
 ·exact U5
theorem vl (l:List Wt):FSpec prog 328 [.one (.sl fK l)] [] [] (.b (fc l)) []:=by
  obtain ⟨v,hv⟩:=qGe (fc l);rw [hv];unfold fc at hv;refine a7 func328 ?_;refine aY (fun c ρ a w hr=>bV (t:=0) hr rfl) (fun hl0=>?_);by_cases h8:8<l.length
  · rw [qDf (by omega)] at hv
    obtain rfl:false=v:=hv;exact UG
  rw [qDt (by omega),Bool.true_and] at hv;refine ao ?_;refine ab (fun i=>i<=l.length/\BM l i (l.drop i)=v) (fun i=>bP [] [(0,.c (.sl fK l)),(3,.i i)] []) (fun i=>l.length-i) 0 ⟨Nat.zero_le _,hv⟩ aT ?_;rintro i ⟨hi,hs⟩;by_cases hlt:i<l.length
  · rw [qDc hlt,nT] at hs
    have:=jA l[i];have:=oX l l[i].proc;repeat' (first|refine av ?_ ?_|refine gV ?_|refine aq ?_|exact aw|refine ap fun hb=>?_)
    all_goals first
      | (obtain rfl:false=v:=by rw [<-hs];simp [*]
         refine cc (qf []) ?_;exact af)
      | (refine ⟨i+1,⟨by omega,by rw [<-hs];simp [*]⟩,by omega,?_⟩
         exact aT)
  · rw [qDn (by omega)] at hs
    obtain rfl:true=v:=hs;exact UG
theorem pW (l:List Wt) (p:Pr) (hl:l.length<=100000):FSpec prog 283 [.one (.sl fK l),p.a] [] [] (.tup [.one (.sl fK (cq l p)),.one (.sc (.bool (decide ((cq l p).length<l.length))))]) []:=by
 rw [show decide ((cq l p).length<l.length)=decide (((cq l p).length:Int)<(l.length:Int)) by simp];obtain ⟨R,hR⟩:=qGe (cq l p);rw [hR];refine a7 func283 ?_;refine ao ?_;refine cj 6 1000 173 fK rfl rfl rfl ?_;refine ab (fun x:Nat×List Wt=>x.1<=l.length/\x.2.length<=x.1/\x.2++cq (l.drop x.1) p=R) (fun x=>bP [3,1000] [(0,.c (.sl fK l)),(3,.c (.ptr 3 0)),(6,.c (.own 1000)),(7,.i x.1)] [(3,.box 40 [.sc (.int .i64 p.site),.sc (.int .i64 p.inc),.sc (.int .i64 p.num)]),(1000,.arr 173 fK x.2)]) (fun x=>l.length-x.1) (0,[]) ⟨Nat.zero_le _,Nat.le_refl _,hR⟩ aT ?_;rintro ⟨i,out⟩ ⟨hi,ho,hs⟩;dsimp only at *
 by_cases hlt:i<l.length
 ·rw [qDc hlt,cq,List.filter_cons] at hs;repeat' (first|refine av ?_ ?_|(refine aa 8 rfl ?_;refine be (ae rfl rfl (aH rfl rfl) (aN [l[i]] rfl rfl rfl rfl) rfl aQ aQ) rfl rfl rfl ?_)|refine aq ?_|exact aw|refine ap fun hb=>?_)
  ·refine ⟨(i+1,out++[l[i]]),⟨by dsimp only;omega,by simp;omega,by rw [<-hs];simp [cq, *]⟩,by dsimp only;omega,?_⟩;exact bo (qf [(1000,27)])
  ·exact Wg
 ·rw [qDn (by omega)] at hs;obtain rfl:out=R:=by rw [<-hs];simp [cq]
  refine ao ?_
  (refine fE (qf []) ?_;exact af)
theorem Ch {all:List Wt}:∀{l:List Wt} {k:Nat},BM all k l=true->∀x∈l,uO x=true
 | [],_,_,_,hx=>absurd hx (by simp)
 | y :: l,k,h,x,hx=>by
  rw [nT] at h;simp only [qBa] at h;rcases List.mem_cons.1 hx with rfl|hx
  ·exact h.1.1
  ·exact Ch h.2 x hx
theorem LP (l:List Wt) (x:Wt):FSpec prog 281 [.one (.sl fK l),x.a] [] [] (.tup [.one (.sl fK (jZ l x).2),.one .any,.one (.sc (.int .i64 (jZ l x).1))]) []:=by
 obtain ⟨⟨E,R⟩,hR⟩:∃R,jZ l x=R:=⟨_,rfl⟩;rw [hR];unfold jZ at hR;dsimp only;refine a7 func281 ?_;cases h1:fc l with
 | false =>
  rw [h1] at hR;injection hR with e1 e2;subst e1;subst e2;have:=vl l;refine ao ?_
  (refine dP (qf []) ?_;exact af)
 | true =>
  rw [h1] at hR;cases h2:uO x && decide (x.passed=0) with
  | false =>
   rw [h2] at hR;injection hR with e1 e2;subst e1;subst e2;repeat' (first|refine av ?_ ?_|(refine aa 9 rfl ?_;first|(refine cB [] (vl l) ?_)|(refine cB [] (jA x) ?_))|refine aq ?_|exact aw|(refine ap fun hb=>?_;first|(simp [h1] at hb;done)|skip)|(refine dP (qf []) ?_;exact af))
   all_goals (exfalso;revert h2;simp [*])
  | true =>
   rw [h2] at hR;obtain ⟨h2,h3⟩:uO x=true/\x.passed=0:=by simpa using h2
   by_cases h4:0<=eH l x.proc
   ·rw [qDt h4] at hR;injection hR with e1 e2;subst e1;subst e2;have:=vl l;have:=jA x;have:=oX l x.proc;refine ao ?_
    (refine dP (qf []) ?_;exact af)
   rw [qDf h4] at hR;have h8:l.length<=8:=by have:=h1;simp [fc] at this;exact this.1
   by_cases h5:l.length=8
   ·rw [qDt h5] at hR;injection hR with e1 e2;subst e1;subst e2;have:=vl l;have:=jA x;have:=oX l x.proc;refine ao ?_
    (refine dP (qf []) ?_;exact af)
   rw [qDf h5] at hR;obtain ⟨rfl,hW⟩:0=E/\jH l x=R:=by injection hR with e1 e2;exact ⟨e1,e2⟩
   clear hR;have hpas:∀i (h:i<l.length),0<=l[i].passed/\l[i].passed<=3:=fun i h=>by
    have h6:=h1;simp only [fc,qBa] at h6;have h7:=Ch h6.2 _ (List.getElem_mem h);simp [uO] at h7;omega
   obtain ⟨K,hK⟩:=qGe (jY x l l.length);unfold jH at hW;rw [hK] at hW;have:=vl l;have:=jA x;have:=oX l x.proc;refine ao ?_;refine ab (fun k=>k<=l.length/\jY x l k=K) (fun k=>bP [3] [(0,.c (.sl fK l)),(3,.c (.ptr 3 0)),(7,.i k)] [(3,.box 173 [.sc (.int .i64 x.proc.site),.sc (.int .i64 x.proc.inc),.sc (.int .i64 x.proc.num),.sc (.int .i64 x.am.mode),.sc (.int .i64 x.am.units),.sc (.int .i64 x.prio),.sc (.int .i64 x.passed)])]) (fun k=>k) l.length ⟨Nat.le_refl _,hK⟩ aT ?_;rintro k ⟨hk,hs⟩;have hcase:(k=0/\k=K)\/∃m,0<k/\l[((k:Int)-1).toNat]? = some m/\(m.prio<x.prio/\m.passed<3/\jY x l (k-1)=K\/¬(m.prio<x.prio/\m.passed<3)/\k=K):=by
    cases k with
    | zero=>exact .inl ⟨rfl,hs⟩
    | succ j =>
     refine .inr ⟨l[j],by omega,by rw [show (((j+1:Nat):Int)-1).toNat=j by omega,qGg (by omega)],?_⟩;rw [jY,qGg (by omega)] at hs;dsimp only at hs;by_cases h6:l[j].prio<x.prio/\l[j].passed<3
     ·rw [qDt h6.1,qDt h6.2] at hs;exact .inl ⟨h6.1,h6.2,hs⟩
     ·rw [<-Bool.decide_and,qDf h6] at hs;exact .inr ⟨h6,hs⟩
   rcases hcase with ⟨h0,rfl⟩|⟨m,h0,hgm,⟨h6,h7,h9⟩|⟨h6,rfl⟩⟩
   case inr.inl =>
    refine ao ?_;refine ⟨k-1,⟨by omega,h9⟩,by omega,?_⟩;exact aT
   all_goals
    have hlk:(l.take k).length=k:=by simp;omega
    repeat' (first|refine av ?_ ?_|(refine aa 8 rfl ?_;refine be (ae rfl rfl (aH rfl rfl) (aN [x] rfl rfl rfl rfl) rfl aQ aQ) rfl rfl rfl ?_)|refine aq ?_|exact aw|(refine ap fun hb=>?_;first|(simp at hb;done)|skip))
   all_goals
    refine ab (fun y:Nat×List Wt=>y.1<=l.length/\y.2.length<=y.1+1/\y.2++(l.drop y.1).map iH=R) (fun y=>bP [1000] [(0,.c (.sl fK l)),(7,.i k),(8,.c (.own 1000)),(9,.i y.1)] [(1000,.arr 173 fK y.2)]) (fun y=>l.length-y.1) (k,l.take k++[x]) ⟨hk,by simp;omega,by rw [<-hW];simp⟩ (by exact bo (qf [(1000,63)])) ?_;rintro ⟨i,out⟩ ⟨hi,ho,hs⟩;dsimp only at *
    by_cases hlt:i<l.length
    ·have hp:=hpas i hlt;rw [qDc hlt,List.map_cons] at hs;repeat' (first|refine av ?_ ?_|(refine aa 8 rfl ?_;refine be (ae rfl rfl (aH rfl rfl) (aN [iH l[i]] rfl rfl rfl rfl) rfl aQ aQ) rfl rfl rfl ?_)|refine aq ?_|exact aw|refine ap fun hb=>?_)
     refine ⟨(i+1,out++[iH l[i]]),⟨by dsimp only;omega,by simp;omega,by rw [<-hs];simp⟩,by dsimp only;omega,?_⟩;exact bo (qf [(1000,82)])
    ·rw [qDn (by omega)] at hs;obtain rfl:out=R:=by rw [<-hs];simp
     refine ao ?_
     (refine dP (qf []) ?_;exact af)
theorem Ef (r:Rs):FSpec prog 129 [r.a] [] [] (.b (iB r)) [] :=
 de (fun b W=>by kernel_rfl) rfl fun w S ρ vs _ h=>by
  match vs,h with
  | [_],⟨h1,_⟩=>rw [Rs.open h1];exact (z7 _ w).mono fun _ _=>jc
theorem oY (q:Qu) (h1:q.holds.length<=100000) (h2:q.convs.length<=100000) (h3:q.waits.length<=100000):FSpec prog 279 [q.a] [] [] (.v q.a) []:=by
 refine a7 func279 ?_;refine ao ?_;exact U4
def oC (q:Qu):Wt:=(dD q).getD ⟨⟨0,0,0⟩,⟨0,0⟩,0,0⟩
theorem LQ (q:Qu):FSpec prog 329 [q.a] [] [] (.tup [(oC q).a,.one (.sc (.bool (dD q).isSome))]) []:=by
 obtain ⟨r,hs,cs,ws,gn⟩:=q;refine a7 func329 ?_;refine aY (fun c ρ a w hr=>d7 (t:=0) (i:=5) hr rfl rfl) (fun hl0_5=>?_);refine aY (fun c ρ a w hr=>d7 (t:=0) (i:=6) hr rfl rfl) (fun hl0_6=>?_);cases cs with
 | cons x cs =>
  have e0:(x :: cs)[(0:Int).toNat]? = some x:=rfl;have e1:(x :: cs)[0]? = some x:=rfl;exact U8
 | nil =>
  cases ws with
  | cons x ws =>
   have e0:(x :: ws)[(0:Int).toNat]? = some x:=rfl;have e1:(x :: ws)[0]? = some x:=rfl;exact U8
  | nil =>
   refine ao ?_
   (refine fE (qf []) ?_;exact af)
theorem LR (q:Qu):jt q=(iB q.res && zX q.res q.holds && decide (q.convs.length<=8) && fc q.waits && (decide (q.holds.length+q.waits.length<=8) && decide (0<=q.gen) && decide (q.gen<=1073741824)) && (BN q 0 q.convs && Aa q q.waits)):=by
 unfold jt RJ RK;rw [Bool.eq_iff_iff];simp only [qBa];constructor <;> (intro h;simp only [h,and_self])
theorem Ci (q:Qu):FSpec prog 275 [q.a] [] [] (.b (jt q)) []:=by
  obtain ⟨v,hv⟩:=qGe (jt q);rw [hv];rw [LR] at hv;refine a7 func275 ?_;refine aY (fun c ρ a w hr=>d7 (t:=0) (i:=4) hr rfl rfl) (fun hl0_4=>?_);refine aY (fun c ρ a w hr=>d7 (t:=0) (i:=5) hr rfl rfl) (fun hl0_5=>?_);refine aY (fun c ρ a w hr=>d7 (t:=0) (i:=6) hr rfl rfl) (fun hl0_6=>?_);cases hP:iB q.res && zX q.res q.holds && decide (q.convs.length<=8) && fc q.waits with
  | false =>
    rw [hP] at hv;obtain rfl:false=v:=hv;repeat' (first|refine av ?_ ?_|(refine aa 9 rfl ?_;first|(refine cB [] (Ef q.res) ?_)|(refine cB [] (n9 q.res q.holds) ?_)|(refine cB [] (vl q.waits) ?_))|refine aq ?_|exact aw|refine ap fun hb=>?_|exact bg|fail)
    all_goals (exfalso;revert hP;simp [*];try omega)
  | true =>
    rw [hP,Bool.true_and] at hv;simp only [qBa,decide_eq_true_eq] at hP;obtain ⟨⟨⟨p1,p2⟩,p3⟩,p4⟩:=hP;have h8:q.holds.length<=8:=by have:=p2;simp [zX] at this;omega
    have w8:q.waits.length<=8:=by have:=p4;simp [fc] at this;omega
    by_cases hG:q.holds.length+q.waits.length<=8/\0<=q.gen/\q.gen<=1073741824
    case neg =>
      obtain rfl:false=v:=by
        rw [<-hv]
        symm
        rw [Bool.and_eq_false_iff]
        left
        rw [Bool.eq_false_iff];intro h;simp only [qBa,decide_eq_true_eq] at h;exact hG ⟨h.1.1,h.1.2,h.2⟩
      have:=Ef q.res;have:=n9 q.res q.holds;have:=vl q.waits;repeat' (first|refine av ?_ ?_|refine gV ?_|refine aq ?_|exact aw|(refine ap fun hb=>?_;first|(simp [p1] at hb;done)|(simp [p2] at hb;done)|(simp [p4] at hb;done)|skip)|exact bg|fail)
      all_goals (exfalso;omega)
    obtain ⟨g1,g2,g3⟩:=hG;rw [qDt g1,qDt g2,qDt g3] at hv;simp only [Bool.true_and] at hv;have:=Ef q.res;have:=n9 q.res q.holds;have:=vl q.waits;refine ao ?_;refine ab (fun i=>i<=q.convs.length/\(BN q i (q.convs.drop i) && Aa q q.waits)=v) (fun i=>bP [1,3] [(1,.c (.ptr 1 0)),(3,.c (.ptr 3 0)),(4,.i i)] [(1,.box 66 q.d),(3,.box 63 [.sc (.string q.res.name),.sc (.int .i64 q.res.kind),.sc (.int .i64 q.res.units),.sc (.int .i64 q.res.home)])]) (fun i=>q.convs.length-i) 0 ⟨Nat.zero_le _,hv⟩ aT ?_;rintro i ⟨hi,hs⟩;by_cases hlt:i<q.convs.length
    · rw [qDc hlt,rW] at hs
      obtain ⟨x,hx⟩:=qGe (q.convs[i]);have hgx:q.convs[i]? = some x:=by rw [qGg hlt,hx]
      rw [hx] at hs;obtain ⟨h,hh⟩:=qGe (ah q.holds x.proc);have kG:=Ok q.holds x.proc;unfold Je at hs;rw [hh] at hs kG;clear hv hx hh;have:=gW h;have:=jz q.res x.am;have:=dJ q.res x.am h;have:=oX q.convs x.proc;repeat' (first|refine av ?_ ?_|refine gV ?_|refine aq ?_|exact aw|refine ap fun hb=>?_)
      all_goals first
        | (obtain rfl:false=v:=by rw [<-hs];simp [*]
           refine cc (qf []) ?_;exact af)
        | (refine ⟨i+1,⟨by omega,by rw [<-hs];simp [*]⟩,by omega,?_⟩
           exact aT)
    · rw [qDn (by omega)] at hs
      refine ao ?_;refine ab (fun i=>i<=q.waits.length/\Aa q (q.waits.drop i)=v) (fun i=>bP [1,3] [(1,.c (.ptr 1 0)),(3,.c (.ptr 3 0)),(7,.i i)] [(1,.box 66 q.d),(3,.box 63 [.sc (.string q.res.name),.sc (.int .i64 q.res.kind),.sc (.int .i64 q.res.units),.sc (.int .i64 q.res.home)])]) (fun i=>q.waits.length-i) 0 ⟨Nat.zero_le _,hs⟩ aT ?_;rintro i ⟨hi,hs⟩;by_cases hlt:i<q.waits.length
      · rw [qDc hlt,rX] at hs
        have:=jz q.res q.waits[i].am;have:=Ok q.holds q.waits[i].proc;have:=gW (ah q.holds q.waits[i].proc);repeat' (first|refine av ?_ ?_|refine gV ?_|refine aq ?_|exact aw|refine ap fun hb=>?_)
        all_goals first
          | (obtain rfl:false=v:=by rw [<-hs];simp [*]
             refine cc (qf []) ?_;exact af)
          | (refine ⟨i+1,⟨by omega,by rw [<-hs];simp [*]⟩,by omega,?_⟩
             exact aT)
      · rw [qDn (by omega)] at hs
        obtain rfl:true=v:=hs;exact UG
theorem pX (q:Qu):FSpec prog 276 [q.a] [] [] (.b (ay q)) []:=by
 obtain ⟨v,hv⟩:=qGe (ay q);rw [hv];unfold ay at hv;have kH:=LQ q;obtain ⟨x,hx⟩:=qGe (oC q);rw [hx] at kH;unfold oC at hx;refine a7 func276 ?_;cases hq:dD q with
 | none =>
  rw [hq] at hv kH;have:=Ci q;repeat' (first|refine av ?_ ?_|refine gV ?_|refine aq ?_|exact aw|refine ap fun hb=>?_)
  all_goals (refine eU ?_;rw [<-hv];simp [*])
 | some y =>
  rw [hq] at hv kH hx;obtain rfl:y=x:=hx;have:=Ci q;have:=Sp q.res q.holds y.proc y.am;repeat' (first|refine av ?_ ?_|refine gV ?_|refine aq ?_|exact aw|refine ap fun hb=>?_)
  all_goals (refine eU ?_;rw [<-hv];simp [*])
theorem dj (q:Qu):FSpec prog 220 [q.a] [] [] (.b (ay q)) []:=by
 have h:jt q=false->ay q=false:=fun h=>by unfold ay;rw [h];rfl
 refine a7 func220 ?_;have:=Ci q;have:=pX q;repeat' (first|refine av ?_ ?_|refine gV ?_|refine aq ?_|exact aw|refine ap fun hb=>?_)
 all_goals (refine eU ?_;first|rfl|(rw [h (by assumption)]))
def Gk (o:Option Am):Am:=o.getD ⟨0,0⟩
theorem iK (p:Pr):∀(l:List Wt) (k:Nat),(iS p k l = -1/\iT l p=none)\/∃i,∃h:i<l.length,iS p k l=((k+i:Nat):Int)/\iT l p=some l[i].am
 | [],_=>.inl ⟨rfl,rfl⟩
 | x :: l,k=>by
  rw [fx,du];cases decide (x.proc=p) with
  | true=>exact .inr ⟨0,by simp,rfl,rfl⟩
  | false =>
   rcases iK p l (k+1) with ⟨h1,h2⟩|⟨i,h,h1,h2⟩
   ·exact .inl ⟨h1,h2⟩
   ·exact .inr ⟨i+1,by simpa using h,by rw [qCf,h1];congr 1;omega,by simpa using h2⟩
theorem Ol (q:Qu) (p:Pr):FSpec prog 68 [q.a,p.a] [] [] (.tup [(Gk (aj q p)).a,.one (.sc (.bool (aj q p).isSome))]) []:=by
 obtain ⟨v,hv⟩:=qGe (aj q p);rw [hv];unfold aj at hv;rw [fC] at hv;have k1:=oX q.convs p;have k2:=oX q.waits p;unfold eH at k1 k2;refine a7 func68 ?_;rcases iK p q.convs 0 with ⟨h1,h2⟩|⟨i,h,h1,h2⟩
 ·rw [h2] at hv;rw [h1] at k1;rcases iK p q.waits 0 with ⟨h3,h4⟩|⟨i,h,h3,h4⟩
  ·rw [h4] at hv;obtain rfl:none=v:=hv;rw [h3] at k2;exact VJ
  ·rw [h4] at hv;obtain rfl:some q.waits[i].am=v:=hv;rw [h3,Nat.zero_add] at k2;exact VJ
 ·rw [h2] at hv;obtain rfl:some q.convs[i].am=v:=hv;rw [h1,Nat.zero_add] at k1;refine ao ?_
  (refine fE (qf []) ?_;exact af)
end Go.Proofs.YthpgjkjgkhjjlaaGreatDoor
