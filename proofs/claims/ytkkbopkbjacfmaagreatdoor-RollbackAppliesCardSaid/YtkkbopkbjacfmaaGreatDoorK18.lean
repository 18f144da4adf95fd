/- Part K18 of a proof of statements of chapter 15 (no condition). -/
import Derived.Test.YtkkbopkbjacfmaaGreatDoorK13
import Derived.Test.YtkkbopkbjacfmaaGreatDoorK15
set_option linter.unusedVariables false
set_option linter.unusedSimpArgs false
set_option maxRecDepth 100000
set_option maxHeartbeats 64000000
namespace Go.Proofs.YtkkbopkbjacfmaaGreatDoor
open Go.RowKit Go.Proofs.Tryz
theorem oD (p:Pr):FSpec prog 107 [p.a] [] [] (.b (gm p)) [] :=
 bD (fun b W=>by kernel_rfl) rfl fun w S ρ vs _ h=>by
  match vs,h with
  | [_],⟨h1,_⟩=>rw [Pr.open h1];exact (qC p w).mono fun _ _=>jb
theorem pQ (p q:Pr):FSpec prog 74 [p.a,q.a] [] [] (.i (bH p q)) [] :=
 bD (fun b W=>by kernel_rfl) rfl fun w S ρ vs _ h=>by
  match vs,h with
  | [_,_],⟨h1,h2,_⟩=>rw [Pr.open h1,Pr.open h2];exact (Fc p q w).mono fun _ _=>jb
theorem tZ (r:Rs) (l:List Ho):FSpec prog 306 [r.a,.one (.sl g8 l)] [] [] (.b (qD r l)) []:=by
  obtain ⟨v,hv⟩:=qGe (qD r l);rw [hv];unfold qD at hv;refine aS func306 ?_;refine aP (fun c ρ a w hr=>ck (t:=1) hr rfl) (fun hl1=>?_);cases hs:aW r && decide (l.length<=8) with
  | false =>
    rw [hs] at hv;obtain rfl:false=v:=hv;have:=tY r;repeat' (first|refine az ?_ ?_|refine fV ?_|refine ay ?_|exact aA|refine ax fun hb=>?_|exact aT|fail)
    exfalso;revert hs;simp [*];omega
  | true =>
    rw [hs,Bool.true_and] at hv;obtain ⟨hs,h8⟩:aW r=true/\l.length<=8:=by simpa using hs
    repeat' (first|refine az ?_ ?_|refine aa 9 rfl (cB [] (tY r) ?_)|((fail_if_success (first|refine po 4 ?_|refine pp 4 ?_));refine ay ?_)|exact aA|(refine ax fun hb=>?_;first|(simp [hs] at hb;done)|skip))
    refine bK 5 1000 61 E8 rfl rfl rfl ?_;refine ao ?_;refine ab (fun i=>i<=l.length/\(ue r (uf l i) (l.drop i) && g9 r (iA l))=v) (fun i=>bC [2,1000] [(1,.c (.sl g8 l)),(2,.c (.ptr 2 0)),(5,.c (.own 1000)),(16,.c (.sl g8 l)),(17,.i l.length),(18,.i i)] [(2,.box 74 [.sc (.string r.name),.sc (.int .i64 r.kind),.sc (.int .i64 r.units),.sc (.int .i64 r.home)]),(1000,.arr 61 E8 (iA (l.take i)))]) (fun i=>l.length-i) 0 ⟨Nat.zero_le _,hv⟩ aL ?_;rintro i ⟨hi,hs⟩;have hlen:(iA (l.take i)).length=i:=by simp [iA];omega
    by_cases hlt:i<l.length
    · have ea:iA (l.take (i+1))=iA (l.take i)++[l[i].am]:=by unfold iA;rw [List.take_succ_eq_append_getElem hlt,List.map_append];rfl
      rw [qDc hlt,xi] at hs;rcases Nat.eq_zero_or_pos i with h0|h0
      · subst h0
        rw [ug] at hs;repeat' (first|refine az ?_ ?_|(refine aa 8 rfl ?_;refine aK (ae rfl rfl (av rfl rfl) (aB [l[0].am] rfl rfl rfl rfl) rfl aE aE) rfl rfl rfl ?_)|(refine aa 9 rfl ?_;first|(refine cB [] (oD l[0].proc) ?_)|(refine cB [] (jl r l[0].am) ?_))|refine ay ?_|exact aA|(refine ax fun hb=>?_;first|(simp at hb;done)|skip))
        all_goals first
          | (obtain rfl:false=v:=by rw [<-hs];simp [*]
             refine cn (qf []) ?_;exact ak)
          | (refine ⟨1,⟨by omega,by rw [<-hs,jZ hlt rfl];simp [*]⟩,by omega,?_⟩
             rw [ea];exact a8 (qf [(1000,52)]))
      · obtain ⟨m,hm⟩:=qGe (l[i-1])
        have hgm:l[((i:Int)-1).toNat]? = some m:=by rw [show ((i:Int)-1).toNat=i-1 by omega,qGg (by omega),hm]
        rw [xj h0 (by omega) hm] at hs;dsimp only at hs;repeat' (first|refine az ?_ ?_|(refine aa 8 rfl ?_;refine aK (ae rfl rfl (av rfl rfl) (aB [l[i].am] rfl rfl rfl rfl) rfl aE aE) rfl rfl rfl ?_)|(refine aa 9 rfl ?_;first|(refine cB [] (oD l[i].proc) ?_)|(refine cB [] (jl r l[i].am) ?_)|(refine cB [] (pQ m.proc l[i].proc) ?_))|refine ay ?_|exact aA|refine ax fun hb=>?_)
        all_goals first
          | (obtain rfl:false=v:=by rw [<-hs];first|(simp [*];done)|(rw [decide_eq_false (p:=bH m.proc l[i].proc<0) (by omega)];simp)
             refine cn (qf []) ?_;exact ak)
          | (refine ⟨i+1,⟨by omega,by rw [<-hs,jZ hlt rfl,decide_eq_true (p:=bH m.proc l[i].proc<0) (by omega)];simp [*]⟩,by omega,?_⟩
             rw [ea];exact a8 (qf [(1000,52)]))
    · rw [qDn (by omega)] at hs
      obtain rfl:g9 r (iA l)=v:=hs;rw [List.take_of_length_le (by omega)] at hlen ⊢;repeat' (first|refine az ?_ ?_|refine aa 9 rfl (cB [1000] (LG r (iA l)) ?_)|refine ay ?_|exact aA|refine ax fun hb=>?_|exact aT|fail)
theorem Qr (l:List Ho) (p:Pr):FSpec prog 249 [.one (.sl g8 l),p.a] [] [] (.v (af l p).a) []:=by
 obtain ⟨v,hv⟩:=qGe (af l p);rw [hv];refine aS func249 ?_;refine aP (fun c ρ a w hr=>ck (t:=0) hr rfl) (fun hl0=>?_);refine ao ?_;refine ab (fun i=>i<=l.length/\af (l.drop i) p=v) (fun i=>bC [3,4] [(3,.c (.ptr 3 0)),(4,.c (.ptr 4 0)),(7,.c (.sl g8 l)),(8,.i l.length),(9,.i i)] [(3,.box 42 [.sc (.int .i64 p.site),.sc (.int .i64 p.inc),.sc (.int .i64 p.num)]),(4,.box 61 [.sc (.int .i64 0),.sc (.int .i64 0)])]) (fun i=>l.length-i) 0 ⟨Nat.zero_le _,hv⟩ aL ?_;rintro i ⟨hi,hs⟩;by_cases hlt:i<l.length
 ·rw [qDc hlt,af] at hs;repeat' (first|refine az ?_ ?_|refine ay ?_|exact aA|refine ax fun hb=>?_)
  ·obtain rfl:l[i].am=v:=by rw [<-hs];simp [*]
   exact Rd
  ·exact Rb
 ·rw [qDn (by omega)] at hs;obtain rfl:=hs;exact QY
def tt (p:Pr):Nat->List Ho->Int
 | _,[]=>-1
 | k,h :: l=>bif decide (0<bH h.proc p) then (k:Int) else tt p (k+1) l
theorem Dc (p:Pr):∀(l:List Ho) (k:Nat),tt p k l = -1\/((k:Int)<=tt p k l/\tt p k l<k+l.length)
 | [],_=>.inl rfl
 | h :: l,k=>by
  unfold tt;cases decide (0<bH h.proc p) with
  | true=>exact .inr ⟨Int.le_refl _,by simp;omega⟩
  | false =>
   rcases Dc p l (k+1) with h1|⟨h1,h2⟩
   ·exact .inl h1
   ·refine .inr ⟨?_,?_⟩ <;> simp only [qCf,List.length_cons] <;> omega
theorem Bi (p:Pr) (h:Ho):∀(l:List Ho) (k:Nat),tt p k (l++[h])=if tt p k l<0 then (if 0<bH h.proc p then ((k+l.length:Nat):Int) else -1) else tt p k l
 | [],k=>by
  by_cases h1:0<bH h.proc p <;> simp [tt,h1]
 | x :: l,k=>by
  have ih:=Bi p h l (k+1);rw [List.cons_append,tt,tt];cases decide (0<bH x.proc p) with
  | true=>rw [qCt,qCt,if_neg (by omega)]
  | false=>rw [qCf,qCf,ih,List.length_cons,show k+1+l.length=k+(l.length+1) by omega]
theorem Bj (x:Ho):∀(l:List Ho) (k:Nat),nr x l=l.take (if tt x.proc k l<0 then l.length else (tt x.proc k l).toNat-k)++x :: l.drop (if tt x.proc k l<0 then l.length else (tt x.proc k l).toNat-k)
 | [],_=>by simp [nr]
 | h :: l,k=>by
  rw [ip,tt];cases decide (0<bH h.proc x.proc) with
  | true=>rw [qCt,qCt,if_neg (by omega)];simp
  | false =>
   rw [qCf,qCf,Bj x l (k+1)];rcases Dc x.proc l (k+1) with h1|⟨h1,h2⟩
   ·simp [h1]
   ·rw [if_neg (by omega),if_neg (by omega),show (tt x.proc (k+1) l).toNat-k=(tt x.proc (k+1) l).toNat-(k+1)+1 by omega];rfl
theorem LI (l:List Ho) (p:Pr) (x:Am) (hl:l.length<=100000):FSpec prog 254 [.one (.sl g8 l),p.a,x.a] [] [] (.c (.sl g8 (cE l p x))) []:=by
 obtain ⟨R,hR⟩:=qGe (cE l p x);rw [hR];unfold cE at hR;obtain ⟨F,hF⟩:=qGe (eW l p);rw [hF] at hR;refine aS func254 ?_;repeat' (first|refine az ?_ ?_|(refine aa 20 rfl ?_;refine sx (LH (E:=g8) rfl rfl rfl (by omega) (by omega)) ?_)|refine ay ?_|exact aA|refine ax fun hb=>?_)
 refine ab (fun y:Nat×List Ho=>y.1<=l.length/\y.2.length<=y.1/\y.2++eW (l.drop y.1) p=F) (fun y=>bC [4,5,1000] [(4,.c (.ptr 4 0)),(5,.c (.ptr 5 0)),(7,.c (.own 1000)),(8,.i (tt p 0 y.2)),(15,.c (.sl g8 l)),(16,.i l.length),(17,.i y.1)] [(4,.box 42 [.sc (.int .i64 p.site),.sc (.int .i64 p.inc),.sc (.int .i64 p.num)]),(5,.box 61 [.sc (.int .i64 x.mode),.sc (.int .i64 x.units)]),(1000,.arr 223 g8 y.2)]) (fun y=>l.length-y.1) (0,[]) ⟨Nat.zero_le _,Nat.le_refl _,hF⟩ (by exact a8 (qf [(1000,14)])) ?_;rintro ⟨i,out⟩ ⟨hi,hol,hs⟩;dsimp only at *
 have hpb:=Dc p out 0;by_cases hlt:i<l.length
 ·rw [qDc hlt,mI] at hs;by_cases hp:l[i].proc=p
  ·rw [qDt hp,qCt] at hs;refine ao ?_;refine ⟨(i+1,out),⟨by dsimp only;omega,by dsimp only;omega,hs⟩,by dsimp only;omega,?_⟩;exact aL
  ·rw [qDf hp,qCf] at hs;have hsn:=Bi p l[i] out 0;rw [Nat.zero_add] at hsn;repeat' (first|refine az ?_ ?_|(refine aa 8 rfl ?_;refine aK (ae rfl rfl (av rfl rfl) (aB [l[i]] rfl rfl rfl rfl) rfl aE aE) rfl rfl rfl ?_)|refine aa 9 rfl (cB [] (pQ l[i].proc p) ?_)|refine ay ?_|exact aA|(refine ax fun hb=>?_;first|(exact absurd hb hp)|skip))
   all_goals
    refine ⟨(i+1,out++[l[i]]),⟨by dsimp only;omega,by simp;omega,by rw [<-hs];simp⟩,by dsimp only;omega,?_⟩;dsimp only;rw [hsn];first|(rw [if_pos (by omega),if_pos (by omega)];exact a8 (qf [(1000,39)]))|(rw [if_pos (by omega),if_neg (by omega),show (-1:Int)=tt p 0 out by omega];exact a8 (qf [(1000,39)]))|(rw [if_neg (by omega)];exact a8 (qf [(1000,39)]))
 ·rw [qDn (by omega)] at hs;obtain rfl:out=F:=by rw [<-hs];simp [eW]
  cases hz:aJ x with
  | true =>
   rw [hz] at hR;obtain rfl:out=R:=hR;have:=mx x;exact QY
  | false =>
   rw [hz,qCf,Bj _ out 0] at hR;obtain ⟨K,hK,hKl,hpl⟩:∃K:Nat,(if tt p 0 out<0 then out.length else (tt p 0 out).toNat-0)=K/\K<=out.length/\(tt p 0 out<0/\K=out.length\/tt p 0 out=(K:Int)):=by
    rcases hpb with h|⟨h,h'⟩
    ·exact ⟨out.length,by rw [if_pos (by omega)],Nat.le_refl _,.inl ⟨by omega,rfl⟩⟩
    ·exact ⟨(tt p 0 out).toNat,by rw [if_neg (by omega)];rfl,by omega,.inr (by omega)⟩
   dsimp only at hR;rw [hK] at hR;obtain ⟨W,hW⟩:=qGe (out++[(⟨⟨0,0,0⟩,⟨0,0⟩⟩:Ho)]);have hWl:W.length=out.length+1:=by rw [<-hW];simp
   obtain ⟨M,hM⟩:=qGe (W.take ((K:Int)+1).toNat++(W.drop (K:Int).toNat).take (W.length-((K:Int)+1).toNat));have hM2:M=W.take (K+1)++out.drop K:=by
    have h1:(W.drop K).take (out.length-K)=out.drop K:=by rw [<-hW,List.drop_append_of_le_length hKl,List.take_append_of_le_length (by simp),List.take_of_length_le (by simp)]
    rw [<-hM,show ((K:Int)+1).toNat=K+1 by omega,show (K:Int).toNat=K by omega,show W.length-(K+1)=out.length-K by omega,h1]
   have hMl:M.length=out.length+1:=by rw [hM2];simp [hWl];omega
   obtain ⟨u,hu⟩:∃u,M[K]? = some u:=⟨_,qGg (by omega)⟩;have hfin:M.set K ⟨p,x⟩=R:=by
    have h1:(W.take (K+1)).length=K+1:=by simp;omega
    rw [hM2,List.set_append_left _ _ (by omega),<-hR,List.take_succ_eq_append_getElem (by omega),List.set_append_right _ _ (by simp;omega),show K-(W.take K).length=0 by simp;omega,List.set_cons_zero,<-hW,List.take_append_of_le_length hKl];simp
   rcases hpl with ⟨hpl,rfl⟩|hpl
   case' inr=>rw [hpl]
   all_goals
    clear hpb hK hM2 hR;repeat' (first|refine az ?_ ?_|(refine aa 8 rfl ?_;refine aK (ae rfl rfl (av rfl rfl) (aB [(⟨⟨0,0,0⟩,⟨0,0⟩⟩:Ho)] rfl rfl rfl rfl) hW (by simp only [List.length_cons,List.length_nil,maxLen];omega) (by simp only [List.length_cons,List.length_nil];omega)) rfl rfl rfl ?_)|(refine aa 9 rfl ?_;first|(refine sx (Gj rfl rfl rfl rfl rfl (by omega) (by omega) hM) ?_)|(refine cB [] (mx x) ?_))|(refine aa 14 rfl ?_;refine sx (Db rfl rfl rfl rfl (by omega) rfl (by omega) (by omega)) ?_)|refine ay ?_|(refine aa 4 rfl ?_;refine bW (aM (z:=⟨p,x⟩) rfl rfl rfl rfl hu rfl rfl rfl rfl (qNl rfl) rfl rfl) rfl rfl rfl ?_)|exact aA|(refine ax fun hb=>?_;first|(simp [hz] at hb;done)|skip))
    rw [hfin];exact Rd
theorem Bk (r:Rs) (l:List Ho) (p:Pr) (x:Am):FSpec prog 209 [r.a,.one (.sl g8 l),p.a,x.a] [] [] (.b (xk r l p x)) []:=by
 unfold xk;refine aS func209 ?_;have:=tZ r l;have:=oD p;have:=jl r x;repeat' (first|refine az ?_ ?_|refine fV ?_|refine ay ?_|exact aA|refine ax fun hb=>?_)
 all_goals (refine eR ?_;simp [*])
theorem Jb (r:Rs) (l:List Ho) (p:Pr) (x:Am):FSpec prog 210 [r.a,.one (.sl g8 l),p.a,x.a] [] [] (.b (gi r l p x)) []:=by
 unfold gi;refine aS func210 ?_;cases hh:xk r l p x with
 | false =>
  have:=Bk r l p x;exact QY
 | true =>
  have h8:l.length<=8:=by have:=hh;simp [xk,qD] at this;omega
  have:=Bk r l p x;have:=LI l p x (by omega);have:=tZ r (cE l p x);exact QY
theorem Dr (l:List Wt) (p:Pr):FSpec prog 252 [.one (.sl gc l),p.a] [] [] (.i (dM l p)) []:=by
 obtain ⟨v,hv⟩:=qGe (dM l p);rw [hv];refine aS func252 ?_;refine aP (fun c ρ a w hr=>ck (t:=0) hr rfl) (fun hl0=>?_);refine ao ?_;refine ab (fun i=>i<=l.length/\gZ p i (l.drop i)=v) (fun i=>bC [3] [(3,.c (.ptr 3 0)),(7,.c (.sl gc l)),(8,.i l.length),(9,.i i)] [(3,.box 42 [.sc (.int .i64 p.site),.sc (.int .i64 p.inc),.sc (.int .i64 p.num)])]) (fun i=>l.length-i) 0 ⟨Nat.zero_le _,hv⟩ aL ?_;rintro i ⟨hi,hs⟩;by_cases hlt:i<l.length
 ·rw [qDc hlt,eL] at hs;repeat' (first|refine az ?_ ?_|refine ay ?_|exact aA|refine ax fun hb=>?_)
  ·exact Rx
  ·exact Rb
 ·exact Ra
theorem Oj (a:Am):bj a=(aH ⟨⟨#[]⟩,1,1,0⟩ a || aH ⟨⟨#[]⟩,2,8,0⟩ a):=by
 simp [bj,aH,aW]
theorem Ds (x:Wt):FSpec prog 380 [x.a] [] [] (.b (uc x)) []:=by
 unfold uc;rw [Oj];refine aS func380 ?_;repeat' (first|refine az ?_ ?_|(refine aa 9 rfl ?_;first|(refine cB [] (oD x.proc) ?_)|(refine cB [] (jl ⟨⟨#[]⟩,1,1,0⟩ x.am) ?_)|(refine cB [] (jl ⟨⟨#[]⟩,2,8,0⟩ x.am) ?_))|refine ay ?_|exact aA|refine ax fun hb=>?_)
 all_goals (refine eR ?_;simp [*])
theorem JO (l:List Wt):FSpec prog 362 [.one (.sl gc l)] [] [] (.b (fe l)) []:=by
  obtain ⟨v,hv⟩:=qGe (fe l);rw [hv];unfold fe at hv;refine aS func362 ?_;refine aP (fun c ρ a w hr=>ck (t:=0) hr rfl) (fun hl0=>?_);by_cases h8:8<l.length
  · rw [qDf (by omega)] at hv
    obtain rfl:false=v:=hv;exact QY
  rw [qDt (by omega),Bool.true_and] at hv;refine ao ?_;refine ab (fun i=>i<=l.length/\yr l i (l.drop i)=v) (fun i=>bC [] [(0,.c (.sl gc l)),(8,.c (.sl gc l)),(9,.i l.length),(10,.i i)] []) (fun i=>l.length-i) 0 ⟨Nat.zero_le _,hv⟩ aL ?_;rintro i ⟨hi,hs⟩;by_cases hlt:i<l.length
  · rw [qDc hlt,mH] at hs
    have:=Ds l[i];have:=Dr l l[i].proc;repeat' (first|refine az ?_ ?_|refine fV ?_|refine ay ?_|exact aA|refine ax fun hb=>?_)
    all_goals first
      | (obtain rfl:false=v:=by rw [<-hs];simp [*]
         refine cn (qf []) ?_;exact ak)
      | (refine ⟨i+1,⟨by omega,by rw [<-hs];simp [*]⟩,by omega,?_⟩
         exact aL)
  · rw [qDn (by omega)] at hs
    obtain rfl:true=v:=hs;exact QY
theorem BR (l:List Wt) (p:Pr) (hl:l.length<=100000):FSpec prog 247 [.one (.sl gc l),p.a] [] [] (.tup [.one (.sl gc (bX l p)),.one (.sc (.bool (decide ((bX l p).length<l.length))))]) []:=by
 rw [show decide ((bX l p).length<l.length)=decide (((bX l p).length:Int)<(l.length:Int)) by simp];obtain ⟨R,hR⟩:=qGe (bX l p);rw [hR];refine aS func247 ?_;refine ao ?_;refine bK 6 1000 154 gc rfl rfl rfl ?_;refine ab (fun x:Nat×List Wt=>x.1<=l.length/\x.2.length<=x.1/\x.2++bX (l.drop x.1) p=R) (fun x=>bC [3,1000] [(0,.c (.sl gc l)),(3,.c (.ptr 3 0)),(6,.c (.own 1000)),(9,.c (.sl gc l)),(10,.i l.length),(11,.i x.1)] [(3,.box 42 [.sc (.int .i64 p.site),.sc (.int .i64 p.inc),.sc (.int .i64 p.num)]),(1000,.arr 154 gc x.2)]) (fun x=>l.length-x.1) (0,[]) ⟨Nat.zero_le _,Nat.le_refl _,hR⟩ aL ?_;rintro ⟨i,out⟩ ⟨hi,ho,hs⟩;dsimp only at *
 by_cases hlt:i<l.length
 ·rw [qDc hlt,bX,List.filter_cons] at hs;repeat' (first|refine az ?_ ?_|(refine aa 8 rfl ?_;refine aK (ae rfl rfl (av rfl rfl) (aB [l[i]] rfl rfl rfl rfl) rfl aE aE) rfl rfl rfl ?_)|refine ay ?_|exact aA|refine ax fun hb=>?_)
  ·refine ⟨(i+1,out++[l[i]]),⟨by dsimp only;omega,by simp;omega,by rw [<-hs];simp [bX, *]⟩,by dsimp only;omega,?_⟩;exact a8 (qf [(1000,22)])
  ·exact RP
 ·rw [qDn (by omega)] at hs;obtain rfl:out=R:=by rw [<-hs];simp [bX]
  refine ao ?_
  (refine gG (qf []) ?_;exact ak)
end Go.Proofs.YtkkbopkbjacfmaaGreatDoor
