/- Part 19 of 56 of the proof of both_hold (no condition). -/
import Derived.Test.YtcgpepnbohejfaaGreatDoorK16
set_option linter.unusedVariables false
set_option linter.unusedSimpArgs false
set_option maxRecDepth 100000
set_option maxHeartbeats 64000000
namespace Go.Proofs.YtcgpepnbohejfaaGreatDoor
open Go.RowKit Go.Proofs.Tryz
theorem eZ (p:Pr):FSpec prog 64 [p.a] [] [] (.b (j8 p)) [] :=
 cP (fun b W=>by kernel_rfl) rfl fun w S ρ vs _ h=>by
  match vs,h with
  | [_],⟨h1,_⟩=>rw [Pr.open h1];exact (zD p w).mono fun _ _=>jF
theorem g4 (p q:Pr):FSpec prog 36 [p.a,q.a] [] [] (.i (bC p q)) [] :=
 cP (fun b W=>by kernel_rfl) rfl fun w S ρ vs _ h=>by
  match vs,h with
  | [_,_],⟨h1,h2,_⟩=>rw [Pr.open h1,Pr.open h2];exact (zH p q w).mono fun _ _=>jF
theorem oh (r:Rs) (l:List Ho):FSpec prog 185 [r.a,.one (.sl jR l)] [] [] (.b (yq r l)) []:=by
  obtain ⟨v,hv⟩:∃v,yq r l=v:=⟨_,rfl⟩;rw [hv];unfold yq at hv;refine aT func185 ?_;refine bd (fun c ρ a w hr=>cV (t:=1) hr rfl) (fun hl1=>?_);cases hs:aU r && decide (l.length≤8) with
  | false =>
    rw [hs] at hv;obtain rfl:false=v:=hv;repeat' (first|refine af ?_ ?_|refine aa 9 rfl (cB [] (og r) ?_)|refine ae ?_|exact ah|refine ab fun hb=>?_|exact bB|fail)
    exfalso;revert hs;simp [*];omega
  | true =>
    rw [hs,Bool.true_and] at hv;obtain ⟨hs,h8⟩:aU r=true∧l.length≤8:=by simpa using hs
    repeat' (first|refine af ?_ ?_|refine aa 9 rfl (cB [] (og r) ?_)|((fail_if_success (first|refine lP 4 ?_|refine lQ 4 ?_));refine ae ?_)|exact ah|(refine ab fun hb=>?_;first|(simp [hs] at hb;done)|skip))
    refine cZ 5 1000 42 zE rfl rfl rfl ?_;repeat' (first|refine af ?_ ?_|refine ae ?_|exact ah|refine ab fun hb=>?_)
    refine ak (fun i=>i≤l.length∧(rl r (si l i) (l.drop i) && f0 r (gp l))=v) (fun i=>cq [2,1000] [(1,.c (.sl jR l)),(2,.c (.ptr 2 0)),(5,.c (.own 1000)),(16,.c (.sl jR l)),(17,.i l.length),(18,.i i)] [(2,.box 54 [.sc (.string r.name),.sc (.int .i64 r.kind),.sc (.int .i64 r.units),.sc (.int .i64 r.home)]),(1000,.arr 42 zE (gp (l.take i)))]) (fun i=>l.length-i) 0 ⟨Nat.zero_le _,hv⟩ a7 ?_;rintro i ⟨hi,hs⟩;have hlen:(gp (l.take i)).length=i:=by simp [gp];omega
    by_cases hlt:i<l.length
    · have ea:gp (l.take (i+1))=gp (l.take i)++[l[i].am]:=by unfold gp;rw [List.take_succ_eq_append_getElem hlt,List.map_append];rfl
      rw [List.drop_eq_getElem_cons hlt,zJ] at hs;rcases Nat.eq_zero_or_pos i with h0|h0
      · subst h0
        rw [xb] at hs;repeat' (first|refine af ?_ ?_|(refine aa 8 rfl ?_;refine bh (ap rfl rfl (aH rfl rfl) (aL [l[0].am] rfl rfl rfl rfl) rfl aK aK) rfl rfl rfl ?_)|(refine aa 9 rfl ?_;first|(refine cB [] (eZ l[0].proc) ?_)|(refine cB [] (dy r l[0].am) ?_))|refine ae ?_|exact ah|(refine ab fun hb=>?_;first|(simp at hb;done)|skip))
        all_goals first
          | (obtain rfl:false=v:=by rw [←hs];simp [*]
             refine ct (qf []) ?_;exact aw)
          | (refine ⟨1,⟨by omega,by rw [←hs,oB hlt rfl];simp [*]⟩,by omega,?_⟩
             rw [ea];exact bw (qf [(1000,52)]))
      · obtain ⟨m,hm⟩:∃m,l[i-1]=m:=⟨_,rfl⟩
        have hgm:l[((i:Int)-1).toNat]? = some m:=by rw [show ((i:Int)-1).toNat=i-1 by omega,List.getElem?_eq_getElem (by omega),hm]
        rw [zK h0 (by omega) hm] at hs;dsimp only at hs;repeat' (first|refine af ?_ ?_|(refine aa 8 rfl ?_;refine bh (ap rfl rfl (aH rfl rfl) (aL [l[i].am] rfl rfl rfl rfl) rfl aK aK) rfl rfl rfl ?_)|(refine aa 9 rfl ?_;first|(refine cB [] (eZ l[i].proc) ?_)|(refine cB [] (dy r l[i].am) ?_)|(refine cB [] (g4 m.proc l[i].proc) ?_))|refine ae ?_|exact ah|refine ab fun hb=>?_)
        all_goals first
          | (obtain rfl:false=v:=by rw [←hs];first|(simp [*];done)|(rw [decide_eq_false (p:=bC m.proc l[i].proc<0) (by omega)];simp)
             refine ct (qf []) ?_;exact aw)
          | (refine ⟨i+1,⟨by omega,by rw [←hs,oB hlt rfl,decide_eq_true (p:=bC m.proc l[i].proc<0) (by omega)];simp [*]⟩,by omega,?_⟩
             rw [ea];exact bw (qf [(1000,52)]))
    · rw [List.drop_eq_nil_of_le (by omega)] at hs
      obtain rfl:f0 r (gp l)=v:=hs;rw [List.take_of_length_le (by omega)] at hlen ⊢;repeat' (first|refine af ?_ ?_|refine aa 9 rfl (cB [1000] (Ey r (gp l)) ?_)|refine ae ?_|exact ah|refine ab fun hb=>?_|exact bB|fail)
theorem I8 (l:List Ho) (p:Pr):FSpec prog 100 [.one (.sl jR l),p.a] [] [] (.v (ao l p).a) []:=by
 obtain ⟨v,hv⟩:∃v,ao l p=v:=⟨_,rfl⟩;rw [hv];refine aT func100 ?_;refine bd (fun c ρ a w hr=>cV (t:=0) hr rfl) (fun hl0=>?_);repeat' (first|refine af ?_ ?_|refine ae ?_|exact ah|refine ab fun hb=>?_)
 refine ak (fun i=>i≤l.length∧ao (l.drop i) p=v) (fun i=>cq [3,4] [(3,.c (.ptr 3 0)),(4,.c (.ptr 4 0)),(7,.c (.sl jR l)),(8,.i l.length),(9,.i i)] [(3,.box 40 [.sc (.int .i64 p.site),.sc (.int .i64 p.inc),.sc (.int .i64 p.num)]),(4,.box 42 [.sc (.int .i64 0),.sc (.int .i64 0)])]) (fun i=>l.length-i) 0 ⟨Nat.zero_le _,hv⟩ a7 ?_;rintro i ⟨hi,hs⟩;by_cases hlt:i<l.length
 ·rw [List.drop_eq_getElem_cons hlt,ao] at hs;repeat' (first|refine af ?_ ?_|refine ae ?_|exact ah|refine ab fun hb=>?_)
  ·obtain rfl:l[i].am=v:=by rw [←hs];simp [*]
   refine ct (qf []) ?_;exact aw
  ·refine ⟨i+1,⟨by omega,by rw [←hs];simp [*]⟩,by omega,?_⟩;exact a7
 ·rw [List.drop_eq_nil_of_le (by omega)] at hs;obtain rfl:=hs;repeat' (first|refine af ?_ ?_|refine ae ?_|exact ah|refine ab fun hb=>?_|exact bB|fail)
def nY (p:Pr):Nat→List Ho→Int
 | _,[]=>-1
 | k,h :: l=>bif decide (0<bC h.proc p) then (k:Int) else nY p (k+1) l
theorem xK (p:Pr):∀(l:List Ho) (k:Nat),nY p k l = -1∨((k:Int)≤nY p k l∧nY p k l<k+l.length)
 | [],_=>.inl rfl
 | h :: l,k=>by
  unfold nY;cases decide (0<bC h.proc p) with
  | true=>exact .inr ⟨Int.le_refl _,by simp;omega⟩
  | false =>
   rcases xK p l (k+1) with h1|⟨h1,h2⟩
   ·exact .inl h1
   ·refine .inr ⟨?_,?_⟩ <;> simp only [cond_false,List.length_cons] <;> omega
theorem wd (p:Pr) (h:Ho):∀(l:List Ho) (k:Nat),nY p k (l++[h])=if nY p k l<0 then (if 0<bC h.proc p then ((k+l.length:Nat):Int) else -1) else nY p k l
 | [],k=>by
  by_cases h1:0<bC h.proc p <;> simp [nY,h1]
 | x :: l,k=>by
  have ih:=wd p h l (k+1);rw [List.cons_append,nY,nY];cases decide (0<bC x.proc p) with
  | true=>rw [cond_true,cond_true,if_neg (by omega)]
  | false=>rw [cond_false,cond_false,ih,List.length_cons,show k+1+l.length=k+(l.length+1) by omega]
theorem we (x:Ho):∀(l:List Ho) (k:Nat),lj x l=l.take (if nY x.proc k l<0 then l.length else (nY x.proc k l).toNat-k)++x :: l.drop (if nY x.proc k l<0 then l.length else (nY x.proc k l).toNat-k)
 | [],_=>by simp [lj]
 | h :: l,k=>by
  rw [gK,nY];cases decide (0<bC h.proc x.proc) with
  | true=>rw [cond_true,cond_true,if_neg (by omega)];simp
  | false =>
   rw [cond_false,cond_false,we x l (k+1)];rcases xK x.proc l (k+1) with h1|⟨h1,h2⟩
   ·simp [h1]
   ·rw [if_neg (by omega),if_neg (by omega),show (nY x.proc (k+1) l).toNat-k=(nY x.proc (k+1) l).toNat-(k+1)+1 by omega];rfl
theorem B9 (l:List Ho) (p:Pr) (x:Am) (hl:l.length≤100000):FSpec prog 177 [.one (.sl jR l),p.a,x.a] [] [] (.c (.sl jR (cm l p x))) []:=by
 obtain ⟨R,hR⟩:∃R,cm l p x=R:=⟨_,rfl⟩;rw [hR];unfold cm at hR;obtain ⟨F,hF⟩:∃F,eB l p=F:=⟨_,rfl⟩;rw [hF] at hR;refine aT func177 ?_;repeat' (first|refine af ?_ ?_|(refine aa 20 rfl ?_;refine sx (Ez (E:=jR) rfl rfl rfl (by omega) (by omega)) ?_)|refine ae ?_|exact ah|refine ab fun hb=>?_)
 refine ak (fun y:Nat×List Ho=>y.1≤l.length∧y.2.length≤y.1∧y.2++eB (l.drop y.1) p=F) (fun y=>cq [4,5,1000] [(4,.c (.ptr 4 0)),(5,.c (.ptr 5 0)),(7,.c (.own 1000)),(8,.i (nY p 0 y.2)),(15,.c (.sl jR l)),(16,.i l.length),(17,.i y.1)] [(4,.box 40 [.sc (.int .i64 p.site),.sc (.int .i64 p.inc),.sc (.int .i64 p.num)]),(5,.box 42 [.sc (.int .i64 x.mode),.sc (.int .i64 x.units)]),(1000,.arr 98 jR y.2)]) (fun y=>l.length-y.1) (0,[]) ⟨Nat.zero_le _,Nat.le_refl _,hF⟩ (by exact bw (qf [(1000,14)])) ?_;rintro ⟨i,out⟩ ⟨hi,hol,hs⟩;dsimp only at *
 have hpb:=xK p out 0;by_cases hlt:i<l.length
 ·rw [List.drop_eq_getElem_cons hlt,ml] at hs;by_cases hp:l[i].proc=p
  ·rw [decide_eq_true hp,cond_true] at hs;repeat' (first|refine af ?_ ?_|refine ae ?_|exact ah|(refine ab fun hb=>?_;first|(exact absurd hp hb)|skip))
   refine ⟨(i+1,out),⟨by dsimp only;omega,by dsimp only;omega,hs⟩,by dsimp only;omega,?_⟩;exact a7
  ·rw [decide_eq_false hp,cond_false] at hs;have hsn:=wd p l[i] out 0;rw [Nat.zero_add] at hsn;repeat' (first|refine af ?_ ?_|(refine aa 8 rfl ?_;refine bh (ap rfl rfl (aH rfl rfl) (aL [l[i]] rfl rfl rfl rfl) rfl aK aK) rfl rfl rfl ?_)|refine aa 9 rfl (cB [] (g4 l[i].proc p) ?_)|refine ae ?_|exact ah|(refine ab fun hb=>?_;first|(exact absurd hb hp)|skip))
   all_goals
    refine ⟨(i+1,out++[l[i]]),⟨by dsimp only;omega,by simp;omega,by rw [←hs];simp⟩,by dsimp only;omega,?_⟩;dsimp only;rw [hsn];first|(rw [if_pos (by omega),if_pos (by omega)];exact bw (qf [(1000,39)]))|(rw [if_pos (by omega),if_neg (by omega),show (-1:Int)=nY p 0 out by omega];exact bw (qf [(1000,39)]))|(rw [if_neg (by omega)];exact bw (qf [(1000,39)]))
 ·rw [List.drop_eq_nil_of_le (by omega)] at hs;obtain rfl:out=F:=by rw [←hs];simp [eB]
  cases hz:aG x with
  | true =>
   rw [hz] at hR;obtain rfl:out=R:=hR;repeat' (first|refine af ?_ ?_|refine aa 9 rfl (cB [] (fH x) ?_)|refine ae ?_|exact ah|(refine ab fun hb=>?_;first|(simp [hz] at hb;done)|skip)|exact bB|fail)
  | false =>
   rw [hz,cond_false,we _ out 0] at hR;obtain ⟨K,hK,hKl,hpl⟩:∃K:Nat,(if nY p 0 out<0 then out.length else (nY p 0 out).toNat-0)=K∧K≤out.length∧(nY p 0 out<0∧K=out.length∨nY p 0 out=(K:Int)):=by
    rcases hpb with h|⟨h,h'⟩
    ·exact ⟨out.length,by rw [if_pos (by omega)],Nat.le_refl _,.inl ⟨by omega,rfl⟩⟩
    ·exact ⟨(nY p 0 out).toNat,by rw [if_neg (by omega)];rfl,by omega,.inr (by omega)⟩
   dsimp only at hR;rw [hK] at hR;obtain ⟨W,hW⟩:∃W,out++[(⟨⟨0,0,0⟩,⟨0,0⟩⟩:Ho)]=W:=⟨_,rfl⟩;have hWl:W.length=out.length+1:=by rw [←hW];simp
   obtain ⟨M,hM⟩:∃M,W.take ((K:Int)+1).toNat++(W.drop (K:Int).toNat).take (W.length-((K:Int)+1).toNat)=M:=⟨_,rfl⟩;have hM2:M=W.take (K+1)++out.drop K:=by
    have h1:(W.drop K).take (out.length-K)=out.drop K:=by rw [←hW,List.drop_append_of_le_length hKl,List.take_append_of_le_length (by simp),List.take_of_length_le (by simp)]
    rw [←hM,show ((K:Int)+1).toNat=K+1 by omega,show (K:Int).toNat=K by omega,show W.length-(K+1)=out.length-K by omega,h1]
   have hMl:M.length=out.length+1:=by rw [hM2];simp [hWl];omega
   obtain ⟨u,hu⟩:∃u,M[K]? = some u:=⟨_,List.getElem?_eq_getElem (by omega)⟩;have hfin:M.set K ⟨p,x⟩=R:=by
    have h1:(W.take (K+1)).length=K+1:=by simp;omega
    rw [hM2,List.set_append_left _ _ (by omega),←hR,List.take_succ_eq_append_getElem (by omega),List.set_append_right _ _ (by simp;omega),show K-(W.take K).length=0 by simp;omega,List.set_cons_zero,←hW,List.take_append_of_le_length hKl];simp
   rcases hpl with ⟨hpl,rfl⟩|hpl
   case' inr=>rw [hpl]
   all_goals
    clear hpb hK hM2 hR;repeat' (first|refine af ?_ ?_|(refine aa 8 rfl ?_;refine bh (ap rfl rfl (aH rfl rfl) (aL [(⟨⟨0,0,0⟩,⟨0,0⟩⟩:Ho)] rfl rfl rfl rfl) hW (by simp only [List.length_cons,List.length_nil,maxLen];omega) (by simp only [List.length_cons,List.length_nil];omega)) rfl rfl rfl ?_)|(refine aa 9 rfl ?_;first|(refine sx (Au rfl rfl rfl rfl rfl (by omega) (by omega) hM) ?_)|(refine cB [] (fH x) ?_))|(refine aa 14 rfl ?_;refine sx (xJ rfl rfl rfl rfl (by omega) rfl (by omega) (by omega)) ?_)|refine ae ?_|(refine aa 4 rfl ?_;refine bc (aA (z:=⟨p,x⟩) rfl rfl rfl rfl hu rfl rfl rfl rfl (Nat.le_of_ble_eq_true rfl) rfl rfl) rfl rfl rfl ?_)|exact ah|(refine ab fun hb=>?_;first|(simp [hz] at hb;done)|skip))
    rw [hfin];refine ct (qf []) ?_;exact aw
theorem wg (r:Rs) (l:List Ho) (p:Pr) (x:Am):FSpec prog 188 [r.a,.one (.sl jR l),p.a,x.a] [] [] (.b (vb r l p x)) []:=by
 unfold vb;refine aT func188 ?_;repeat' (first|refine af ?_ ?_|(refine aa 9 rfl ?_;first|(refine cB [] (oh r l) ?_)|(refine cB [] (eZ p) ?_)|(refine cB [] (dy r x) ?_))|refine ae ?_|exact ah|refine ab fun hb=>?_)
 all_goals (refine fm ?_;simp [*])
theorem Ca (r:Rs) (l:List Ho) (p:Pr) (x:Am):FSpec prog 149 [r.a,.one (.sl jR l),p.a,x.a] [] [] (.b (f5 r l p x)) []:=by
 unfold f5;refine aT func149 ?_;cases hh:vb r l p x with
 | false =>
  repeat' (first|refine af ?_ ?_|refine aa 9 rfl (cB [] (wg r l p x) ?_)|refine ae ?_|exact ah|(refine ab fun hb=>?_;first|(simp [hh] at hb;done)|skip)|exact bB|fail)
 | true =>
  have h8:l.length≤8:=by have:=hh;simp [vb,yq] at this;omega
  repeat' (first|refine af ?_ ?_|(refine aa 9 rfl ?_;first|(refine cB [] (wg r l p x) ?_)|(refine cC [] (B9 l p x (by omega)) ?_)|(refine cB [] (oh r (cm l p x)) ?_))|refine ae ?_|exact ah|(refine ab fun hb=>?_;first|(simp [hh] at hb;done)|skip)|exact bB|fail)
theorem mE (l:List Wt) (p:Pr):FSpec prog 221 [.one (.sl fJ l),p.a] [] [] (.i (dB l p)) []:=by
 obtain ⟨v,hv⟩:∃v,dB l p=v:=⟨_,rfl⟩;rw [hv];refine aT func221 ?_;refine bd (fun c ρ a w hr=>cV (t:=0) hr rfl) (fun hl0=>?_);repeat' (first|refine af ?_ ?_|refine ae ?_|exact ah|refine ab fun hb=>?_)
 refine ak (fun i=>i≤l.length∧fZ p i (l.drop i)=v) (fun i=>cq [3] [(3,.c (.ptr 3 0)),(7,.c (.sl fJ l)),(8,.i l.length),(9,.i i)] [(3,.box 40 [.sc (.int .i64 p.site),.sc (.int .i64 p.inc),.sc (.int .i64 p.num)])]) (fun i=>l.length-i) 0 ⟨Nat.zero_le _,hv⟩ a7 ?_;rintro i ⟨hi,hs⟩;by_cases hlt:i<l.length
 ·rw [List.drop_eq_getElem_cons hlt,ew] at hs;repeat' (first|refine af ?_ ?_|refine ae ?_|exact ah|refine ab fun hb=>?_)
  ·refine fm ?_;rw [←hs];simp [*]
  ·refine ⟨i+1,⟨by omega,by rw [←hs];simp [*]⟩,by omega,?_⟩;exact a7
 ·rw [List.drop_eq_nil_of_le (by omega)] at hs;repeat' (first|refine af ?_ ?_|refine ae ?_|exact ah|refine ab fun hb=>?_)
  refine fm ?_;rw [←hs];rfl
theorem Gl (a:Am):br a=(aC ⟨⟨#[]⟩,1,1,0⟩ a || aC ⟨⟨#[]⟩,2,8,0⟩ a):=by
 simp [br,aC,aU]
theorem gi (x:Wt):FSpec prog 220 [x.a] [] [] (.b (rk x)) []:=by
 unfold rk;rw [Gl];refine aT func220 ?_;repeat' (first|refine af ?_ ?_|(refine aa 9 rfl ?_;first|(refine cB [] (eZ x.proc) ?_)|(refine cB [] (dy ⟨⟨#[]⟩,1,1,0⟩ x.am) ?_)|(refine cB [] (dy ⟨⟨#[]⟩,2,8,0⟩ x.am) ?_))|refine ae ?_|exact ah|refine ab fun hb=>?_)
 all_goals (refine fm ?_;simp [*])
theorem nE (l:List Wt):FSpec prog 219 [.one (.sl fJ l)] [] [] (.b (fD l)) []:=by
  obtain ⟨v,hv⟩:∃v,fD l=v:=⟨_,rfl⟩;rw [hv];unfold fD at hv;refine aT func219 ?_;refine bd (fun c ρ a w hr=>cV (t:=0) hr rfl) (fun hl0=>?_);by_cases h8:8<l.length
  · rw [decide_eq_false (by omega)] at hv
    obtain rfl:false=v:=hv;repeat' (first|refine af ?_ ?_|refine ae ?_|exact ah|refine ab fun hb=>?_|exact bB|fail)
  rw [decide_eq_true (by omega),Bool.true_and] at hv;repeat' (first|refine af ?_ ?_|refine ae ?_|exact ah|refine ab fun hb=>?_)
  refine ak (fun i=>i≤l.length∧uX l i (l.drop i)=v) (fun i=>cq [] [(0,.c (.sl fJ l)),(8,.c (.sl fJ l)),(9,.i l.length),(10,.i i)] []) (fun i=>l.length-i) 0 ⟨Nat.zero_le _,hv⟩ a7 ?_;rintro i ⟨hi,hs⟩;by_cases hlt:i<l.length
  · rw [List.drop_eq_getElem_cons hlt,mj] at hs
    repeat' (first|refine af ?_ ?_|(refine aa 9 rfl ?_;first|(refine cB [] (gi l[i]) ?_)|(refine cB [] (mE l l[i].proc) ?_))|refine ae ?_|exact ah|refine ab fun hb=>?_)
    all_goals first
      | (obtain rfl:false=v:=by rw [←hs];simp [*]
         refine ct (qf []) ?_;exact aw)
      | (refine ⟨i+1,⟨by omega,by rw [←hs];simp [*]⟩,by omega,?_⟩
         exact a7)
  · rw [List.drop_eq_nil_of_le (by omega)] at hs
    obtain rfl:true=v:=hs;repeat' (first|refine af ?_ ?_|refine ae ?_|exact ah|refine ab fun hb=>?_|exact bB|fail)
theorem lS (l:List Wt) (p:Pr) (hl:l.length≤100000):FSpec prog 179 [.one (.sl fJ l),p.a] [] [] (.tup [.one (.sl fJ (bV l p)),.one (.sc (.bool (decide ((bV l p).length<l.length))))]) []:=by
 rw [show decide ((bV l p).length<l.length)=decide (((bV l p).length:Int)<(l.length:Int)) by simp];obtain ⟨R,hR⟩:∃R,bV l p=R:=⟨_,rfl⟩;rw [hR];refine aT func179 ?_;repeat' (first|refine af ?_ ?_|refine ae ?_|exact ah|refine ab fun hb=>?_)
 refine cZ 6 1000 211 fJ rfl rfl rfl ?_;refine ak (fun x:Nat×List Wt=>x.1≤l.length∧x.2.length≤x.1∧x.2++bV (l.drop x.1) p=R) (fun x=>cq [3,1000] [(0,.c (.sl fJ l)),(3,.c (.ptr 3 0)),(6,.c (.own 1000)),(9,.c (.sl fJ l)),(10,.i l.length),(11,.i x.1)] [(3,.box 40 [.sc (.int .i64 p.site),.sc (.int .i64 p.inc),.sc (.int .i64 p.num)]),(1000,.arr 211 fJ x.2)]) (fun x=>l.length-x.1) (0,[]) ⟨Nat.zero_le _,Nat.le_refl _,hR⟩ a7 ?_;rintro ⟨i,out⟩ ⟨hi,ho,hs⟩;dsimp only at *
 by_cases hlt:i<l.length
 ·rw [List.drop_eq_getElem_cons hlt,bV,List.filter_cons] at hs;repeat' (first|refine af ?_ ?_|(refine aa 8 rfl ?_;refine bh (ap rfl rfl (aH rfl rfl) (aL [l[i]] rfl rfl rfl rfl) rfl aK aK) rfl rfl rfl ?_)|refine ae ?_|exact ah|refine ab fun hb=>?_)
  ·refine ⟨(i+1,out++[l[i]]),⟨by dsimp only;omega,by simp;omega,by rw [←hs];simp [bV, *]⟩,by dsimp only;omega,?_⟩;exact bw (qf [(1000,22)])
  ·refine ⟨(i+1,out),⟨by dsimp only;omega,by dsimp only;omega,by rw [←hs];simp [bV, *]⟩,by dsimp only;omega,?_⟩;exact a7
 ·rw [List.drop_eq_nil_of_le (by omega)] at hs;obtain rfl:out=R:=by rw [←hs];simp [bV]
  repeat' (first|refine af ?_ ?_|refine ae ?_|exact ah|refine ab fun hb=>?_|(refine gC (qf []) ?_;exact aw))
theorem Fq (x y:Wt):FSpec prog 222 [x.a,y.a] [] [] (.i (bif decide (y.prio<x.prio) && decide (y.passed<3) then 1 else 0)) []:=by
 obtain ⟨v,hv⟩:∃v:Int,(bif decide (y.prio<x.prio) && decide (y.passed<3) then (1:Int) else 0)=v:=⟨_,rfl⟩;rw [hv];refine aT func222 ?_;repeat' (first|refine af ?_ ?_|refine ae ?_|exact ah|refine ab fun hb=>?_)
 all_goals (refine fm ?_;rw [←hv];simp [*])
def IG:Wt:=⟨⟨0,0,0⟩,⟨0,0⟩,0,0⟩
theorem Cb (l:List Wt) (x:Wt):FSpec prog 173 [.one (.sl fJ l),x.a] [] [] (.tup [.one (.sl fJ (jU l x).2),.one .any,.one (.sc (.int .i64 (jU l x).1))]) []:=by
 obtain ⟨⟨E,R⟩,hR⟩:∃R,jU l x=R:=⟨_,rfl⟩;rw [hR];unfold jU at hR;dsimp only;refine aT func173 ?_;cases h1:fD l with
 | false =>
  rw [h1] at hR;injection hR with e1 e2;subst e1;subst e2;repeat' (first|refine af ?_ ?_|refine aa 9 rfl (cB [] (nE l) ?_)|refine ae ?_|exact ah|(refine ab fun hb=>?_;first|(simp [h1] at hb;done)|skip)|(refine fB (qf []) ?_;exact aw))
 | true =>
  rw [h1] at hR;cases h2:rk x && decide (x.passed=0) with
  | false =>
   rw [h2] at hR;injection hR with e1 e2;subst e1;subst e2;repeat' (first|refine af ?_ ?_|(refine aa 9 rfl ?_;first|(refine cB [] (nE l) ?_)|(refine cB [] (gi x) ?_))|refine ae ?_|exact ah|(refine ab fun hb=>?_;first|(simp [h1] at hb;done)|skip)|(refine fB (qf []) ?_;exact aw))
   all_goals (exfalso;revert h2;simp [*])
  | true =>
   rw [h2] at hR;obtain ⟨h2,h3⟩:rk x=true∧x.passed=0:=by simpa using h2
   by_cases h4:0≤dB l x.proc
   ·rw [decide_eq_true h4] at hR;injection hR with e1 e2;subst e1;subst e2;repeat' (first|refine af ?_ ?_|(refine aa 9 rfl ?_;first|(refine cB [] (nE l) ?_)|(refine cB [] (gi x) ?_)|(refine cB [] (mE l x.proc) ?_))|refine ae ?_|exact ah|(refine ab fun hb=>?_;first|(simp [h1] at hb;done)|(simp [h2] at hb;done)|skip)|(refine fB (qf []) ?_;exact aw))
   rw [decide_eq_false h4] at hR;have h8:l.length≤8:=by have:=h1;simp [fD] at this;exact this.1
   by_cases h5:l.length=8
   ·rw [decide_eq_true h5] at hR;injection hR with e1 e2;subst e1;subst e2;repeat' (first|refine af ?_ ?_|(refine aa 9 rfl ?_;first|(refine cB [] (nE l) ?_)|(refine cB [] (gi x) ?_)|(refine cB [] (mE l x.proc) ?_))|refine ae ?_|exact ah|(refine ab fun hb=>?_;first|(simp [h1] at hb;done)|(simp [h2] at hb;done)|skip)|(refine fB (qf []) ?_;exact aw))
   rw [decide_eq_false h5] at hR;obtain ⟨rfl,hW⟩:0=E∧gS l x=R:=by injection hR with e1 e2;exact ⟨e1,e2⟩
   clear hR;have hpas:∀i (h:i<l.length),0≤l[i].passed∧l[i].passed≤3:=fun i h=>by
    have h6:=h1;simp only [fD,Bool.and_eq_true] at h6;have h7:=yP h6.2 _ (List.getElem_mem h);simp [rk] at h7;omega
   obtain ⟨K,hK⟩:∃K,je x l l.length=K:=⟨_,rfl⟩;unfold gS at hW;rw [hK] at hW;obtain ⟨R0,hR0⟩:∃R0,l++(List.replicate (l.length+1) IG).drop l.length=R0:=⟨_,rfl⟩;have hR0':R0=l.take l.length++IG :: (l.drop l.length).map gt:=by rw [←hR0];simp
   repeat' (first|refine af ?_ ?_|(refine aa 9 rfl ?_;first|(refine sx (s5 rfl rfl rfl (oX rfl) (by simp) (by simp) hR0) ?_)|(refine cB [] (nE l) ?_)|(refine cB [] (gi x) ?_)|(refine cB [] (mE l x.proc) ?_))|(refine aa 20 rfl ?_;refine sx (uk (E:=fJ) (n:=l.length+1) (z:=.agg #[.int .i64 0,.int .i64 0,.int .i64 0,.int .i64 0,.int .i64 0,.int .i64 0,.int .i64 0]) IG rfl rfl rfl rfl (by omega) (by kernel_rfl) (fun _ _=>rfl) (by decide)) ?_)|refine ae ?_|exact ah|(refine ab fun hb=>?_;first|(simp [h1] at hb;done)|(simp [h2] at hb;done)|skip))
   refine ak (fun y:Nat×Wt=>y.1≤l.length∧je x l y.1=K) (fun y=>cq [3,1000] [(3,.c (.ptr 3 0)),(7,.c (.own 1000)),(8,.i y.1)] [(3,.box 211 [.sc (.int .i64 x.proc.site),.sc (.int .i64 x.proc.inc),.sc (.int .i64 x.proc.num),.sc (.int .i64 x.am.mode),.sc (.int .i64 x.am.units),.sc (.int .i64 x.prio),.sc (.int .i64 x.passed)]),(1000,.arr 211 fJ (l.take y.1++y.2 :: (l.drop y.1).map gt))]) (fun y=>y.1) (l.length,IG) ⟨Nat.le_refl _,hK⟩ (by dsimp only;rw [←hR0'];exact bw (qf [(1000,35)])) ?_;clear hR0 hR0' R0;rintro ⟨k,X⟩ ⟨hk,hs⟩;dsimp only at *
   obtain ⟨L,hL⟩:∃L,l.take k++X :: (l.drop k).map gt=L:=⟨_,rfl⟩;have hLl:L.length=l.length+1:=by rw [←hL];simp;omega
   have hLk:L.set k x=l.take k++x :: (l.drop k).map gt:=by
    rw [←hL,List.set_append_right _ _ (by simp;omega)];simp [Nat.min_eq_left hk]
   have hgk:L[k]? = some X:=by
    rw [←hL,List.getElem?_append_right (by simp;omega)];simp [Nat.min_eq_left hk]
   rw [hL];have fin:k=K→L.set k x=R:=fun h=>by rw [hLk,←hW,h]
   have hcase:(k=0∧k=K)∨∃m,0<k∧L[((k:Int)-1).toNat]? = some m∧(0≤m.passed∧m.passed≤3)∧(L.set k m).set k (gt m)=l.take (k-1)++m :: (l.drop (k-1)).map gt∧(m.prio<x.prio∧m.passed<3∧je x l (k-1)=K∨¬(m.prio<x.prio∧m.passed<3)∧k=K):=by
    cases k with
    | zero=>exact .inl ⟨rfl,hs⟩
    | succ j =>
     have hj:j<l.length:=by omega
     refine .inr ⟨l[j],by omega,?_,hpas j hj,?_,?_⟩
     ·rw [show (((j+1:Nat):Int)-1).toNat=j by omega,←hL,List.getElem?_append_left (by simp;omega),List.getElem?_take,if_pos (by omega),List.getElem?_eq_getElem hj]
     ·have e1:(L.set (j+1) l[j]).set (j+1) (gt l[j])=l.take (j+1)++gt l[j] :: (l.drop (j+1)).map gt:=by
       rw [List.set_set,←hL,List.set_append_right _ _ (by simp;omega)];simp [Nat.min_eq_left hk]
      rw [e1,Nat.add_sub_cancel,List.drop_eq_getElem_cons hj,List.take_succ_eq_append_getElem hj,List.map_cons,List.append_assoc];rfl
     ·rw [je,List.getElem?_eq_getElem (by omega)] at hs;dsimp only at hs;by_cases h6:l[j].prio<x.prio∧l[j].passed<3
      ·rw [decide_eq_true h6.1,decide_eq_true h6.2] at hs;exact .inl ⟨h6.1,h6.2,hs⟩
      ·rw [←Bool.decide_and,decide_eq_false h6] at hs;exact .inr ⟨h6,hs⟩
   rcases hcase with ⟨h0,hkK⟩|⟨m,h0,hgm,hpm,hset,⟨h6,h7,h9⟩|⟨h6,hkK⟩⟩
   ·have hf:=fin hkK;clear fin hL hLk hs;repeat' (first|refine af ?_ ?_|refine ae ?_|(refine aa 4 rfl ?_;refine bc (aA (z:=x) rfl rfl rfl rfl hgk rfl rfl rfl rfl (Nat.le_of_ble_eq_true rfl) rfl rfl) rfl rfl rfl ?_)|exact ah|(refine ab fun hb=>?_;first|(simp at hb;done)|skip)|(rw [hf];refine fB (qf []) ?_;exact aw))
   ·have kM:=Fq x m;rw [decide_eq_true h6,decide_eq_true h7] at kM;have hg2:(L.set k m)[k]? = some m:=List.getElem?_set_self (by omega);have hg3:(L.set k m).length=L.length:=List.length_set;clear fin hL hLk hs hW;repeat' (first|refine af ?_ ?_|refine aa 9 rfl (cB [1000] (kM) ?_)|refine ae ?_|(refine aa 4 rfl ?_;first|(refine bc (aA (z:=m) rfl rfl rfl rfl hgk rfl rfl rfl rfl (Nat.le_of_ble_eq_true rfl) rfl rfl) rfl rfl rfl ?_)|(refine bc (aA (z:=gt m) rfl rfl rfl rfl hg2 rfl rfl rfl rfl (Nat.le_of_ble_eq_true rfl) rfl rfl) rfl rfl rfl ?_))|exact ah|(refine ab fun hb=>?_;first|(exact absurd hb (by decide))|skip))
    refine ⟨(k-1,m),⟨by dsimp only;omega,h9⟩,by dsimp only;omega,?_⟩;dsimp only;rw [←hset];exact a7
   ·have kM:=Fq x m;rw [show (decide (m.prio<x.prio) && decide (m.passed<3))=false by rw [←Bool.decide_and,decide_eq_false h6]] at kM;have hf:=fin hkK;clear fin hL hLk hs hW;repeat' (first|refine af ?_ ?_|refine aa 9 rfl (cB [1000] (kM) ?_)|refine ae ?_|(refine aa 4 rfl ?_;refine bc (aA (z:=x) rfl rfl rfl rfl hgk rfl rfl rfl rfl (Nat.le_of_ble_eq_true rfl) rfl rfl) rfl rfl rfl ?_)|exact ah|(refine ab fun hb=>?_;first|(exact absurd hb (by decide))|skip)|(rw [hf];refine fB (qf []) ?_;exact aw))
end Go.Proofs.YtcgpepnbohejfaaGreatDoor
