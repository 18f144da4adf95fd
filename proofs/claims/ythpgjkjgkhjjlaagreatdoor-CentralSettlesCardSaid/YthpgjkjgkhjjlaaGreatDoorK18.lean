/- Part K18 of a proof of statements of chapter 15 (no condition). -/
import Derived.Test.YthpgjkjgkhjjlaaGreatDoorK16
import Derived.Test.YthpgjkjgkhjjlaaGreatDoorK17
set_option linter.unusedVariables false
set_option linter.unusedSimpArgs false
set_option maxRecDepth 100000
set_option maxHeartbeats 64000000
namespace Go.Proofs.YthpgjkjgkhjjlaaGreatDoor
open Go.RowKit Go.Proofs.Tryz
theorem io (p:Pr):FSpec prog 120 [p.a] [] [] (.b (jW p)) [] :=
 de (fun b W=>by kernel_rfl) rfl fun w S ρ vs _ h=>by
  match vs,h with
  | [_],⟨h1,_⟩=>rw [Pr.open h1];exact (I8 p w).mono fun _ _=>jc
theorem lc (p q:Pr):FSpec prog 71 [p.a,q.a] [] [] (.i (cl p q)) [] :=
 de (fun b W=>by kernel_rfl) rfl fun w S ρ vs _ h=>by
  match vs,h with
  | [_,_],⟨h1,h2,_⟩=>rw [Pr.open h1,Pr.open h2];exact (Jc p q w).mono fun _ _=>jc
theorem xp (r:Rs) (l:List Ho):FSpec prog 288 [r.a,.one (.sl gM l)] [] [] (.b (zX r l)) []:=by
  obtain ⟨v,hv⟩:=qGe (zX r l);rw [hv];unfold zX at hv;refine a7 func288 ?_;refine aY (fun c ρ a w hr=>bV (t:=1) hr rfl) (fun hl1=>?_);cases hs:br r && decide (l.length<=8) with
  | false =>
    rw [hs] at hv;obtain rfl:false=v:=hv;have:=xo r;repeat' (first|refine av ?_ ?_|refine gV ?_|refine aq ?_|exact aw|refine ap fun hb=>?_|exact bg|fail)
    exfalso;revert hs;simp [*];omega
  | true =>
    rw [hs,Bool.true_and] at hv;obtain ⟨hs,h8⟩:br r=true/\l.length<=8:=by simpa using hs
    repeat' (first|refine av ?_ ?_|refine aa 9 rfl (cB [] (xo r) ?_)|((fail_if_success (first|refine m8 4 ?_|refine m9 4 ?_));refine aq ?_)|exact aw|(refine ap fun hb=>?_;first|(simp [hs] at hb;done)|skip))
    refine cj 5 1000 42 I9 rfl rfl rfl ?_;refine ao ?_;refine ab (fun i=>i<=l.length/\(xJ r (xK l i) (l.drop i) && iX r (js l))=v) (fun i=>bP [2,1000] [(1,.c (.sl gM l)),(2,.c (.ptr 2 0)),(5,.c (.own 1000)),(16,.c (.sl gM l)),(17,.i l.length),(18,.i i)] [(2,.box 63 [.sc (.string r.name),.sc (.int .i64 r.kind),.sc (.int .i64 r.units),.sc (.int .i64 r.home)]),(1000,.arr 42 I9 (js (l.take i)))]) (fun i=>l.length-i) 0 ⟨Nat.zero_le _,hv⟩ aT ?_;rintro i ⟨hi,hs⟩;have hlen:(js (l.take i)).length=i:=by simp [js];omega
    by_cases hlt:i<l.length
    · have ea:js (l.take (i+1))=js (l.take i)++[l[i].am]:=by unfold js;rw [List.take_succ_eq_append_getElem hlt,List.map_append];rfl
      rw [qDc hlt,As] at hs;rcases Nat.eq_zero_or_pos i with h0|h0
      · subst h0
        rw [xL] at hs;repeat' (first|refine av ?_ ?_|(refine aa 8 rfl ?_;refine be (ae rfl rfl (aH rfl rfl) (aN [l[0].am] rfl rfl rfl rfl) rfl aQ aQ) rfl rfl rfl ?_)|(refine aa 9 rfl ?_;first|(refine cB [] (io l[0].proc) ?_)|(refine cB [] (fp r l[0].am) ?_))|refine aq ?_|exact aw|(refine ap fun hb=>?_;first|(simp at hb;done)|skip))
        all_goals first
          | (obtain rfl:false=v:=by rw [<-hs];simp [*]
             refine cc (qf []) ?_;exact af)
          | (refine ⟨1,⟨by omega,by rw [<-hs,lA hlt rfl];simp [*]⟩,by omega,?_⟩
             rw [ea];exact bo (qf [(1000,52)]))
      · obtain ⟨m,hm⟩:=qGe (l[i-1])
        have hgm:l[((i:Int)-1).toNat]? = some m:=by rw [show ((i:Int)-1).toNat=i-1 by omega,qGg (by omega),hm]
        rw [At h0 (by omega) hm] at hs;dsimp only at hs;repeat' (first|refine av ?_ ?_|(refine aa 8 rfl ?_;refine be (ae rfl rfl (aH rfl rfl) (aN [l[i].am] rfl rfl rfl rfl) rfl aQ aQ) rfl rfl rfl ?_)|(refine aa 9 rfl ?_;first|(refine cB [] (io l[i].proc) ?_)|(refine cB [] (fp r l[i].am) ?_)|(refine cB [] (lc m.proc l[i].proc) ?_))|refine aq ?_|exact aw|refine ap fun hb=>?_)
        all_goals first
          | (obtain rfl:false=v:=by rw [<-hs];first|(simp [*];done)|(rw [decide_eq_false (p:=cl m.proc l[i].proc<0) (by omega)];simp)
             refine cc (qf []) ?_;exact af)
          | (refine ⟨i+1,⟨by omega,by rw [<-hs,lA hlt rfl,decide_eq_true (p:=cl m.proc l[i].proc<0) (by omega)];simp [*]⟩,by omega,?_⟩
             rw [ea];exact bo (qf [(1000,52)]))
    · rw [qDn (by omega)] at hs
      obtain rfl:iX r (js l)=v:=hs;rw [List.take_of_length_le (by omega)] at hlen ⊢;repeat' (first|refine av ?_ ?_|refine aa 9 rfl (cB [1000] (On r (js l)) ?_)|refine aq ?_|exact aw|refine ap fun hb=>?_|exact bg|fail)
theorem TE (l:List Ho) (p:Pr):FSpec prog 182 [.one (.sl gM l),p.a] [] [] (.v (ah l p).a) []:=by
 obtain ⟨v,hv⟩:=qGe (ah l p);rw [hv];refine a7 func182 ?_;refine aY (fun c ρ a w hr=>bV (t:=0) hr rfl) (fun hl0=>?_);refine ao ?_;refine ab (fun i=>i<=l.length/\ah (l.drop i) p=v) (fun i=>bP [3,4] [(3,.c (.ptr 3 0)),(4,.c (.ptr 4 0)),(7,.c (.sl gM l)),(8,.i l.length),(9,.i i)] [(3,.box 40 [.sc (.int .i64 p.site),.sc (.int .i64 p.inc),.sc (.int .i64 p.num)]),(4,.box 42 [.sc (.int .i64 0),.sc (.int .i64 0)])]) (fun i=>l.length-i) 0 ⟨Nat.zero_le _,hv⟩ aT ?_;rintro i ⟨hi,hs⟩;by_cases hlt:i<l.length
 ·rw [qDc hlt,ah] at hs;repeat' (first|refine av ?_ ?_|refine aq ?_|exact aw|refine ap fun hb=>?_)
  ·obtain rfl:l[i].am=v:=by rw [<-hs];simp [*]
   exact U4
  ·exact Vc
 ·rw [qDn (by omega)] at hs;obtain rfl:=hs;exact UG
def vE (p:Pr):Nat->List Ho->Int
 | _,[]=>-1
 | k,h :: l=>bif decide (0<cl h.proc p) then (k:Int) else vE p (k+1) l
theorem Gm (p:Pr):∀(l:List Ho) (k:Nat),vE p k l = -1\/((k:Int)<=vE p k l/\vE p k l<k+l.length)
 | [],_=>.inl rfl
 | h :: l,k=>by
  unfold vE;cases decide (0<cl h.proc p) with
  | true=>exact .inr ⟨Int.le_refl _,by simp;omega⟩
  | false =>
   rcases Gm p l (k+1) with h1|⟨h1,h2⟩
   ·exact .inl h1
   ·refine .inr ⟨?_,?_⟩ <;> simp only [qCf,List.length_cons] <;> omega
theorem Eh (p:Pr) (h:Ho):∀(l:List Ho) (k:Nat),vE p k (l++[h])=if vE p k l<0 then (if 0<cl h.proc p then ((k+l.length:Nat):Int) else -1) else vE p k l
 | [],k=>by
  by_cases h1:0<cl h.proc p <;> simp [vE,h1]
 | x :: l,k=>by
  have ih:=Eh p h l (k+1);rw [List.cons_append,vE,vE];cases decide (0<cl x.proc p) with
  | true=>rw [qCt,qCt,if_neg (by omega)]
  | false=>rw [qCf,qCf,ih,List.length_cons,show k+1+l.length=k+(l.length+1) by omega]
theorem Ei (x:Ho):∀(l:List Ho) (k:Nat),oq x l=l.take (if vE x.proc k l<0 then l.length else (vE x.proc k l).toNat-k)++x :: l.drop (if vE x.proc k l<0 then l.length else (vE x.proc k l).toNat-k)
 | [],_=>by simp [oq]
 | h :: l,k=>by
  rw [jg,vE];cases decide (0<cl h.proc x.proc) with
  | true=>rw [qCt,qCt,if_neg (by omega)];simp
  | false =>
   rw [qCf,qCf,Ei x l (k+1)];rcases Gm x.proc l (k+1) with h1|⟨h1,h2⟩
   ·simp [h1]
   ·rw [if_neg (by omega),if_neg (by omega),show (vE x.proc (k+1) l).toNat-k=(vE x.proc (k+1) l).toNat-(k+1)+1 by omega];rfl
theorem LX (l:List Ho) (p:Pr) (x:Am) (hl:l.length<=100000):FSpec prog 271 [.one (.sl gM l),p.a,x.a] [] [] (.c (.sl gM (cw l p x))) []:=by
 obtain ⟨R,hR⟩:=qGe (cw l p x);rw [hR];unfold cw at hR;obtain ⟨F,hF⟩:=qGe (fL l p);rw [hF] at hR;refine a7 func271 ?_;repeat' (first|refine av ?_ ?_|(refine aa 20 rfl ?_;refine sx (Oo (E:=gM) rfl rfl rfl (by omega) (by omega)) ?_)|refine aq ?_|exact aw|refine ap fun hb=>?_)
 refine ab (fun y:Nat×List Ho=>y.1<=l.length/\y.2.length<=y.1/\y.2++fL (l.drop y.1) p=F) (fun y=>bP [4,5,1000] [(4,.c (.ptr 4 0)),(5,.c (.ptr 5 0)),(7,.c (.own 1000)),(8,.i (vE p 0 y.2)),(15,.c (.sl gM l)),(16,.i l.length),(17,.i y.1)] [(4,.box 40 [.sc (.int .i64 p.site),.sc (.int .i64 p.inc),.sc (.int .i64 p.num)]),(5,.box 42 [.sc (.int .i64 x.mode),.sc (.int .i64 x.units)]),(1000,.arr 121 gM y.2)]) (fun y=>l.length-y.1) (0,[]) ⟨Nat.zero_le _,Nat.le_refl _,hF⟩ (by exact bo (qf [(1000,14)])) ?_;rintro ⟨i,out⟩ ⟨hi,hol,hs⟩;dsimp only at *
 have hpb:=Gm p out 0;by_cases hlt:i<l.length
 ·rw [qDc hlt,nU] at hs;by_cases hp:l[i].proc=p
  ·rw [qDt hp,qCt] at hs;refine ao ?_;refine ⟨(i+1,out),⟨by dsimp only;omega,by dsimp only;omega,hs⟩,by dsimp only;omega,?_⟩;exact aT
  ·rw [qDf hp,qCf] at hs;have hsn:=Eh p l[i] out 0;rw [Nat.zero_add] at hsn;repeat' (first|refine av ?_ ?_|(refine aa 8 rfl ?_;refine be (ae rfl rfl (aH rfl rfl) (aN [l[i]] rfl rfl rfl rfl) rfl aQ aQ) rfl rfl rfl ?_)|refine aa 9 rfl (cB [] (lc l[i].proc p) ?_)|refine aq ?_|exact aw|(refine ap fun hb=>?_;first|(exact absurd hb hp)|skip))
   all_goals
    refine ⟨(i+1,out++[l[i]]),⟨by dsimp only;omega,by simp;omega,by rw [<-hs];simp⟩,by dsimp only;omega,?_⟩;dsimp only;rw [hsn];first|(rw [if_pos (by omega),if_pos (by omega)];exact bo (qf [(1000,39)]))|(rw [if_pos (by omega),if_neg (by omega),show (-1:Int)=vE p 0 out by omega];exact bo (qf [(1000,39)]))|(rw [if_neg (by omega)];exact bo (qf [(1000,39)]))
 ·rw [qDn (by omega)] at hs;obtain rfl:out=F:=by rw [<-hs];simp [fL]
  cases hz:aR x with
  | true =>
   rw [hz] at hR;obtain rfl:out=R:=hR;have:=i4 x;exact UG
  | false =>
   rw [hz,qCf,Ei _ out 0] at hR;obtain ⟨K,hK,hKl,hpl⟩:∃K:Nat,(if vE p 0 out<0 then out.length else (vE p 0 out).toNat-0)=K/\K<=out.length/\(vE p 0 out<0/\K=out.length\/vE p 0 out=(K:Int)):=by
    rcases hpb with h|⟨h,h'⟩
    ·exact ⟨out.length,by rw [if_pos (by omega)],Nat.le_refl _,.inl ⟨by omega,rfl⟩⟩
    ·exact ⟨(vE p 0 out).toNat,by rw [if_neg (by omega)];rfl,by omega,.inr (by omega)⟩
   dsimp only at hR;rw [hK] at hR;obtain ⟨W,hW⟩:=qGe (out++[(⟨⟨0,0,0⟩,⟨0,0⟩⟩:Ho)]);have hWl:W.length=out.length+1:=by rw [<-hW];simp
   obtain ⟨M,hM⟩:=qGe (W.take ((K:Int)+1).toNat++(W.drop (K:Int).toNat).take (W.length-((K:Int)+1).toNat));have hM2:M=W.take (K+1)++out.drop K:=by
    have h1:(W.drop K).take (out.length-K)=out.drop K:=by rw [<-hW,List.drop_append_of_le_length hKl,List.take_append_of_le_length (by simp),List.take_of_length_le (by simp)]
    rw [<-hM,show ((K:Int)+1).toNat=K+1 by omega,show (K:Int).toNat=K by omega,show W.length-(K+1)=out.length-K by omega,h1]
   have hMl:M.length=out.length+1:=by rw [hM2];simp [hWl];omega
   obtain ⟨u,hu⟩:∃u,M[K]? = some u:=⟨_,qGg (by omega)⟩;have hfin:M.set K ⟨p,x⟩=R:=by
    have h1:(W.take (K+1)).length=K+1:=by simp;omega
    rw [hM2,List.set_append_left _ _ (by omega),<-hR,List.take_succ_eq_append_getElem (by omega),List.set_append_right _ _ (by simp;omega),show K-(W.take K).length=0 by simp;omega,List.set_cons_zero,<-hW,List.take_append_of_le_length hKl];simp
   rcases hpl with ⟨hpl,rfl⟩|hpl
   case' inr=>rw [hpl]
   all_goals
    clear hpb hK hM2 hR;repeat' (first|refine av ?_ ?_|(refine aa 8 rfl ?_;refine be (ae rfl rfl (aH rfl rfl) (aN [(⟨⟨0,0,0⟩,⟨0,0⟩⟩:Ho)] rfl rfl rfl rfl) hW (by simp only [List.length_cons,List.length_nil,maxLen];omega) (by simp only [List.length_cons,List.length_nil];omega)) rfl rfl rfl ?_)|(refine aa 9 rfl ?_;first|(refine sx (JQ rfl rfl rfl rfl rfl (by omega) (by omega) hM) ?_)|(refine cB [] (i4 x) ?_))|(refine aa 14 rfl ?_;refine sx (Gl rfl rfl rfl rfl (by omega) rfl (by omega) (by omega)) ?_)|refine aq ?_|(refine aa 4 rfl ?_;refine a8 (ak (z:=⟨p,x⟩) rfl rfl rfl rfl hu rfl rfl rfl rfl (qNl rfl) rfl rfl) rfl rfl rfl ?_)|exact aw|(refine ap fun hb=>?_;first|(simp [hz] at hb;done)|skip))
    rw [hfin];exact U4
theorem Ej (r:Rs) (l:List Ho) (p:Pr) (x:Am):FSpec prog 291 [r.a,.one (.sl gM l),p.a,x.a] [] [] (.b (Au r l p x)) []:=by
 unfold Au;refine a7 func291 ?_;have:=xp r l;have:=io p;have:=fp r x;repeat' (first|refine av ?_ ?_|refine gV ?_|refine aq ?_|exact aw|refine ap fun hb=>?_)
 all_goals (refine eU ?_;simp [*])
theorem LY (r:Rs) (l:List Ho) (p:Pr) (x:Am):FSpec prog 244 [r.a,.one (.sl gM l),p.a,x.a] [] [] (.b (gO r l p x)) []:=by
 unfold gO;refine a7 func244 ?_;cases hh:Au r l p x with
 | false =>
  have:=Ej r l p x;exact UG
 | true =>
  have h8:l.length<=8:=by have:=hh;simp [Au,zX] at this;omega
  have:=Ej r l p x;have:=LX l p x (by omega);have:=xp r (cw l p x);exact UG
theorem sy (l:List Wt) (p:Pr):FSpec prog 324 [.one (.sl fK l),p.a] [] [] (.i (eH l p)) []:=by
 obtain ⟨v,hv⟩:=qGe (eH l p);rw [hv];refine a7 func324 ?_;refine aY (fun c ρ a w hr=>bV (t:=0) hr rfl) (fun hl0=>?_);refine ao ?_;refine ab (fun i=>i<=l.length/\iS p i (l.drop i)=v) (fun i=>bP [3] [(3,.c (.ptr 3 0)),(7,.c (.sl fK l)),(8,.i l.length),(9,.i i)] [(3,.box 40 [.sc (.int .i64 p.site),.sc (.int .i64 p.inc),.sc (.int .i64 p.num)])]) (fun i=>l.length-i) 0 ⟨Nat.zero_le _,hv⟩ aT ?_;rintro i ⟨hi,hs⟩;by_cases hlt:i<l.length
 ·rw [qDc hlt,fx] at hs;repeat' (first|refine av ?_ ?_|refine aq ?_|exact aw|refine ap fun hb=>?_)
  ·exact Vz
  ·exact Vc
 ·exact U5
theorem QM (a:Am):cr a=(aS ⟨⟨#[]⟩,1,1,0⟩ a || aS ⟨⟨#[]⟩,2,8,0⟩ a):=by
 simp [cr,aS,br]
theorem jB (x:Wt):FSpec prog 323 [x.a] [] [] (.b (uO x)) []:=by
 unfold uO;rw [QM];refine a7 func323 ?_;repeat' (first|refine av ?_ ?_|(refine aa 9 rfl ?_;first|(refine cB [] (io x.proc) ?_)|(refine cB [] (fp ⟨⟨#[]⟩,1,1,0⟩ x.am) ?_)|(refine cB [] (fp ⟨⟨#[]⟩,2,8,0⟩ x.am) ?_))|refine aq ?_|exact aw|refine ap fun hb=>?_)
 all_goals (refine eU ?_;simp [*])
theorem vm (l:List Wt):FSpec prog 322 [.one (.sl fK l)] [] [] (.b (fc l)) []:=by
  obtain ⟨v,hv⟩:=qGe (fc l);rw [hv];unfold fc at hv;refine a7 func322 ?_;refine aY (fun c ρ a w hr=>bV (t:=0) hr rfl) (fun hl0=>?_);by_cases h8:8<l.length
  · rw [qDf (by omega)] at hv
    obtain rfl:false=v:=hv;exact UG
  rw [qDt (by omega),Bool.true_and] at hv;refine ao ?_;refine ab (fun i=>i<=l.length/\BM l i (l.drop i)=v) (fun i=>bP [] [(0,.c (.sl fK l)),(8,.c (.sl fK l)),(9,.i l.length),(10,.i i)] []) (fun i=>l.length-i) 0 ⟨Nat.zero_le _,hv⟩ aT ?_;rintro i ⟨hi,hs⟩;by_cases hlt:i<l.length
  · rw [qDc hlt,nT] at hs
    have:=jB l[i];have:=sy l l[i].proc;repeat' (first|refine av ?_ ?_|refine gV ?_|refine aq ?_|exact aw|refine ap fun hb=>?_)
    all_goals first
      | (obtain rfl:false=v:=by rw [<-hs];simp [*]
         refine cc (qf []) ?_;exact af)
      | (refine ⟨i+1,⟨by omega,by rw [<-hs];simp [*]⟩,by omega,?_⟩
         exact aT)
  · rw [qDn (by omega)] at hs
    obtain rfl:true=v:=hs;exact UG
theorem p5 (l:List Wt) (p:Pr) (hl:l.length<=100000):FSpec prog 273 [.one (.sl fK l),p.a] [] [] (.tup [.one (.sl fK (cq l p)),.one (.sc (.bool (decide ((cq l p).length<l.length))))]) []:=by
 rw [show decide ((cq l p).length<l.length)=decide (((cq l p).length:Int)<(l.length:Int)) by simp];obtain ⟨R,hR⟩:=qGe (cq l p);rw [hR];refine a7 func273 ?_;refine ao ?_;refine cj 6 1000 173 fK rfl rfl rfl ?_;refine ab (fun x:Nat×List Wt=>x.1<=l.length/\x.2.length<=x.1/\x.2++cq (l.drop x.1) p=R) (fun x=>bP [3,1000] [(0,.c (.sl fK l)),(3,.c (.ptr 3 0)),(6,.c (.own 1000)),(9,.c (.sl fK l)),(10,.i l.length),(11,.i x.1)] [(3,.box 40 [.sc (.int .i64 p.site),.sc (.int .i64 p.inc),.sc (.int .i64 p.num)]),(1000,.arr 173 fK x.2)]) (fun x=>l.length-x.1) (0,[]) ⟨Nat.zero_le _,Nat.le_refl _,hR⟩ aT ?_;rintro ⟨i,out⟩ ⟨hi,ho,hs⟩;dsimp only at *
 by_cases hlt:i<l.length
 ·rw [qDc hlt,cq,List.filter_cons] at hs;repeat' (first|refine av ?_ ?_|(refine aa 8 rfl ?_;refine be (ae rfl rfl (aH rfl rfl) (aN [l[i]] rfl rfl rfl rfl) rfl aQ aQ) rfl rfl rfl ?_)|refine aq ?_|exact aw|refine ap fun hb=>?_)
  ·refine ⟨(i+1,out++[l[i]]),⟨by dsimp only;omega,by simp;omega,by rw [<-hs];simp [cq, *]⟩,by dsimp only;omega,?_⟩;exact bo (qf [(1000,22)])
  ·exact Wg
 ·rw [qDn (by omega)] at hs;obtain rfl:out=R:=by rw [<-hs];simp [cq]
  refine ao ?_
  (refine fE (qf []) ?_;exact af)
theorem PG (x y:Wt):FSpec prog 325 [x.a,y.a] [] [] (.i (bif decide (y.prio<x.prio) && decide (y.passed<3) then 1 else 0)) []:=by
 obtain ⟨v,hv⟩:∃v:Int,(bif decide (y.prio<x.prio) && decide (y.passed<3) then (1:Int) else 0)=v:=⟨_,rfl⟩;rw [hv];refine a7 func325 ?_;repeat' (first|refine av ?_ ?_|refine aq ?_|exact aw|refine ap fun hb=>?_)
 all_goals (refine eU ?_;rw [<-hv];simp [*])
def Tk:Wt:=⟨⟨0,0,0⟩,⟨0,0⟩,0,0⟩
theorem LZ (l:List Wt) (x:Wt):FSpec prog 267 [.one (.sl fK l),x.a] [] [] (.tup [.one (.sl fK (jZ l x).2),.one .any,.one (.sc (.int .i64 (jZ l x).1))]) []:=by
 obtain ⟨⟨E,R⟩,hR⟩:∃R,jZ l x=R:=⟨_,rfl⟩;rw [hR];unfold jZ at hR;dsimp only;refine a7 func267 ?_;cases h1:fc l with
 | false =>
  rw [h1] at hR;injection hR with e1 e2;subst e1;subst e2;have:=vm l;refine ao ?_
  (refine dP (qf []) ?_;exact af)
 | true =>
  rw [h1] at hR;cases h2:uO x && decide (x.passed=0) with
  | false =>
   rw [h2] at hR;injection hR with e1 e2;subst e1;subst e2;repeat' (first|refine av ?_ ?_|(refine aa 9 rfl ?_;first|(refine cB [] (vm l) ?_)|(refine cB [] (jB x) ?_))|refine aq ?_|exact aw|(refine ap fun hb=>?_;first|(simp [h1] at hb;done)|skip)|(refine dP (qf []) ?_;exact af))
   all_goals (exfalso;revert h2;simp [*])
  | true =>
   rw [h2] at hR;obtain ⟨h2,h3⟩:uO x=true/\x.passed=0:=by simpa using h2
   by_cases h4:0<=eH l x.proc
   ·rw [qDt h4] at hR;injection hR with e1 e2;subst e1;subst e2;have:=vm l;have:=jB x;have:=sy l x.proc;refine ao ?_
    (refine dP (qf []) ?_;exact af)
   rw [qDf h4] at hR;have h8:l.length<=8:=by have:=h1;simp [fc] at this;exact this.1
   by_cases h5:l.length=8
   ·rw [qDt h5] at hR;injection hR with e1 e2;subst e1;subst e2;have:=vm l;have:=jB x;have:=sy l x.proc;refine ao ?_
    (refine dP (qf []) ?_;exact af)
   rw [qDf h5] at hR;obtain ⟨rfl,hW⟩:0=E/\jH l x=R:=by injection hR with e1 e2;exact ⟨e1,e2⟩
   clear hR;have hpas:∀i (h:i<l.length),0<=l[i].passed/\l[i].passed<=3:=fun i h=>by
    have h6:=h1;simp only [fc,qBa] at h6;have h7:=Ch h6.2 _ (List.getElem_mem h);simp [uO] at h7;omega
   obtain ⟨K,hK⟩:=qGe (jY x l l.length);unfold jH at hW;rw [hK] at hW;obtain ⟨R0,hR0⟩:=qGe (l++(List.replicate (l.length+1) Tk).drop l.length);have hR0':R0=l.take l.length++Tk :: (l.drop l.length).map iH:=by rw [<-hR0];simp
   repeat' (first|refine av ?_ ?_|(refine aa 9 rfl ?_;first|(refine sx (AZ rfl rfl rfl (yb rfl) (by simp) (by simp) hR0) ?_)|(refine cB [] (vm l) ?_)|(refine cB [] (jB x) ?_)|(refine cB [] (sy l x.proc) ?_))|(refine aa 20 rfl ?_;refine sx (Cj (E:=fK) (n:=l.length+1) (z:=.agg #[.int .i64 0,.int .i64 0,.int .i64 0,.int .i64 0,.int .i64 0,.int .i64 0,.int .i64 0]) Tk rfl rfl rfl rfl (by omega) (by kernel_rfl) (fun _ _=>rfl) (by decide)) ?_)|refine aq ?_|exact aw|(refine ap fun hb=>?_;first|(simp [h1] at hb;done)|(simp [h2] at hb;done)|skip))
   refine ab (fun y:Nat×Wt=>y.1<=l.length/\jY x l y.1=K) (fun y=>bP [3,1000] [(3,.c (.ptr 3 0)),(7,.c (.own 1000)),(8,.i y.1)] [(3,.box 173 [.sc (.int .i64 x.proc.site),.sc (.int .i64 x.proc.inc),.sc (.int .i64 x.proc.num),.sc (.int .i64 x.am.mode),.sc (.int .i64 x.am.units),.sc (.int .i64 x.prio),.sc (.int .i64 x.passed)]),(1000,.arr 173 fK (l.take y.1++y.2 :: (l.drop y.1).map iH))]) (fun y=>y.1) (l.length,Tk) ⟨Nat.le_refl _,hK⟩ (by dsimp only;rw [<-hR0'];exact bo (qf [(1000,35)])) ?_;clear hR0 hR0' R0;rintro ⟨k,X⟩ ⟨hk,hs⟩;dsimp only at *
   obtain ⟨L,hL⟩:=qGe (l.take k++X :: (l.drop k).map iH);have hLl:L.length=l.length+1:=by rw [<-hL];simp;omega
   have hLk:L.set k x=l.take k++x :: (l.drop k).map iH:=by
    rw [<-hL,List.set_append_right _ _ (by simp;omega)];simp [Nat.min_eq_left hk]
   have hgk:L[k]? = some X:=by
    rw [<-hL,List.getElem?_append_right (by simp;omega)];simp [Nat.min_eq_left hk]
   rw [hL];have fin:k=K->L.set k x=R:=fun h=>by rw [hLk,<-hW,h]
   have hcase:(k=0/\k=K)\/∃m,0<k/\L[((k:Int)-1).toNat]? = some m/\(0<=m.passed/\m.passed<=3)/\(L.set k m).set k (iH m)=l.take (k-1)++m :: (l.drop (k-1)).map iH/\(m.prio<x.prio/\m.passed<3/\jY x l (k-1)=K\/¬(m.prio<x.prio/\m.passed<3)/\k=K):=by
    cases k with
    | zero=>exact .inl ⟨rfl,hs⟩
    | succ j =>
     have hj:j<l.length:=by omega
     refine .inr ⟨l[j],by omega,?_,hpas j hj,?_,?_⟩
     ·rw [show (((j+1:Nat):Int)-1).toNat=j by omega,<-hL,List.getElem?_append_left (by simp;omega),List.getElem?_take,if_pos (by omega),qGg hj]
     ·have e1:(L.set (j+1) l[j]).set (j+1) (iH l[j])=l.take (j+1)++iH l[j] :: (l.drop (j+1)).map iH:=by
       rw [List.set_set,<-hL,List.set_append_right _ _ (by simp;omega)];simp [Nat.min_eq_left hk]
      rw [e1,Nat.add_sub_cancel,qDc hj,List.take_succ_eq_append_getElem hj,List.map_cons,List.append_assoc];rfl
     ·rw [jY,qGg (by omega)] at hs;dsimp only at hs;by_cases h6:l[j].prio<x.prio/\l[j].passed<3
      ·rw [qDt h6.1,qDt h6.2] at hs;exact .inl ⟨h6.1,h6.2,hs⟩
      ·rw [<-Bool.decide_and,qDf h6] at hs;exact .inr ⟨h6,hs⟩
   rcases hcase with ⟨h0,hkK⟩|⟨m,h0,hgm,hpm,hset,⟨h6,h7,h9⟩|⟨h6,hkK⟩⟩
   ·have hf:=fin hkK;clear fin hL hLk hs;repeat' (first|refine av ?_ ?_|refine aq ?_|(refine aa 4 rfl ?_;refine a8 (ak (z:=x) rfl rfl rfl rfl hgk rfl rfl rfl rfl (qNl rfl) rfl rfl) rfl rfl rfl ?_)|exact aw|(refine ap fun hb=>?_;first|(simp at hb;done)|skip)|(rw [hf];refine dP (qf []) ?_;exact af))
   ·have kM:=PG x m;rw [qDt h6,qDt h7] at kM;have hg2:(L.set k m)[k]? = some m:=List.getElem?_set_self (by omega);have hg3:(L.set k m).length=L.length:=List.length_set;clear fin hL hLk hs hW;repeat' (first|refine av ?_ ?_|refine aa 9 rfl (cB [1000] kM ?_)|refine aq ?_|(refine aa 4 rfl ?_;first|(refine a8 (ak (z:=m) rfl rfl rfl rfl hgk rfl rfl rfl rfl (qNl rfl) rfl rfl) rfl rfl rfl ?_)|(refine a8 (ak (z:=iH m) rfl rfl rfl rfl hg2 rfl rfl rfl rfl (qNl rfl) rfl rfl) rfl rfl rfl ?_))|exact aw|(refine ap fun hb=>?_;first|(exact absurd hb (by decide))|skip))
    refine ⟨(k-1,m),⟨by dsimp only;omega,h9⟩,by dsimp only;omega,?_⟩;dsimp only;rw [<-hset];exact aT
   ·have kM:=PG x m;rw [show (decide (m.prio<x.prio) && decide (m.passed<3))=false by rw [<-Bool.decide_and,qDf h6]] at kM;have hf:=fin hkK;clear fin hL hLk hs hW;repeat' (first|refine av ?_ ?_|refine aa 9 rfl (cB [1000] kM ?_)|refine aq ?_|(refine aa 4 rfl ?_;refine a8 (ak (z:=x) rfl rfl rfl rfl hgk rfl rfl rfl rfl (qNl rfl) rfl rfl) rfl rfl rfl ?_)|exact aw|(refine ap fun hb=>?_;first|(exact absurd hb (by decide))|skip)|(rw [hf];refine dP (qf []) ?_;exact af))
end Go.Proofs.YthpgjkjgkhjjlaaGreatDoor
