/- Part K17 of a proof of statements of chapter 15 (no condition). -/
import Derived.Test.YtkkbopkbjacfmaaGreatDoorK13
import Derived.Test.YtkkbopkbjacfmaaGreatDoorK15
set_option linter.unusedVariables false
set_option linter.unusedSimpArgs false
set_option maxRecDepth 100000
set_option maxHeartbeats 64000000
namespace Go.Proofs.YtkkbopkbjacfmaaGreatDoor
open Go.RowKit Go.Proofs.Tryz
def zY (a:Tm):Nat->List Tm->Int
 | _,[]=>-1
 | k,b :: l=>bif decide (a=b) then (k:Int) else zY a (k+1) l
theorem xt (a b:Tm) (k:Nat) (l:List Tm):zY a k (b :: l)=bif decide (a=b) then (k:Int) else zY a (k+1) l:=rfl
theorem xu (a:Tm):∀(l:List Tm) (k:Nat) (set:List Bool),(zY a k l = -1/\lz a l=false/\fN l set a=false)\/∃i,i<l.length/\zY a k l=((k+i:Nat):Int)/\lz a l=true/\fN l set a=(set.drop i).headD false
 | [],k,set=>.inl ⟨rfl,rfl,rfl⟩
 | b :: l,k,set=>by
  rw [xt,qG,uw];by_cases h:a=b
  ·refine .inr ⟨0,by simp,?_,?_,?_⟩
   ·rw [qDt h];rfl
   ·rw [qDt h.symm];rfl
   ·rw [qDt h.symm];rfl
  ·rw [qDf h,qDf (Ne.symm h)];rcases xu a l (k+1) set.tail with ⟨h1,h2,h3⟩|⟨i,hi,h1,h2,h3⟩
   ·exact .inl ⟨h1,h2,h3⟩
   ·refine .inr ⟨i+1,by simp;omega,?_,h2,?_⟩
    ·rw [qCf,h1];congr 1;omega
    ·rw [qCf,h3,List.drop_tail]
def QO:Option (List Tm)->TV
 | some _=>.tup [.one (.own 1),.one (.sc (.bool true))]
 | none=>.tup [.one .any,.one (.sc (.bool false))]
def QP (o:Option (List Tm)):List (Nat×Option Box):=[(0,none),(1,o.map (.arr 63 da))]
theorem O3:∀(x:Ex) (d:Nat) (acc:List Tm),acc.length+x.cnt<=1000->FSpec prog 265 [.one (.own 0),x.a d] [(0,.arr 63 da acc)] [1] (QO (yy x acc)) (QP (yy x acc)):=by
 refine Ex.ind (fun k a l ih=>?_);intro d acc hl;rw [Ex.cnt_mk] at hl;obtain ⟨R,hR⟩:=qGe (yy (.mk k a l) acc);rw [hR];rw [DL] at hR;show FSpec prog 265 [.one (.own 0),.ag (CR d k a l)] [(0,.arr 63 da acc)] [1] (QO R) (QP R);cases hE:l.isEmpty with
 | true =>
  obtain rfl:=List.isEmpty_iff.1 hE;rw [hE,qCt,DK] at hR;cases hk:decide (k=0) && lq a with
  | false =>
   rw [hk] at hR;obtain rfl:none=R:=hR;refine aS func265 ?_;have:=vm a.name;have:=mS a.am;repeat' (first|refine az ?_ ?_|refine fV ?_|refine ay ?_|exact aA|refine ax fun hb=>?_|(refine gG (qf []) ?_;exact .tup ⟨.one (.any _),.one (fD rfl),trivial⟩))
   all_goals (exfalso;revert hk;simp [lq, *])
  | true =>
   rw [hk,qCt] at hR;obtain ⟨h0,h1,h2⟩:k=0/\bU a.name.toList=true/\bj a.am=true:=by simpa [lq] using hk
   refine gN func265 rfl (fun b W=>by kernel_rfl) (by cases R <;> rfl) (qNl rfl) ?_;have:=vm a.name;have:=mS a.am;refine ao ?_;refine ab (fun i=>i<=acc.length/\lz a (acc.drop i)=lz a acc) (fun i=>bC [0,3] [(0,.c (.own 0)),(3,.c (.ptr 3 0)),(6,.i i)] [(3,.box 66 (CR d k a [])),(0,.arr 63 da acc)]) (fun i=>acc.length-i) 0 ⟨Nat.zero_le _,rfl⟩ aL ?_;rintro i ⟨hi,hs⟩;by_cases hlt:i<acc.length
   ·rw [qDc hlt,qG] at hs;repeat' (first|refine az ?_ ?_|refine ay ?_|exact aA|refine ax fun hb=>?_)
    ·obtain rfl:some acc=R:=by rw [<-hR,iE,<-hs];simp [hb]
     refine gG (qf [(1,0)]) ?_;exact ak
    ·refine ⟨i+1,⟨by omega,?_⟩,by omega,?_⟩
     ·rw [<-hs];simp [hb]
     ·exact aL
   ·obtain rfl:some (acc++[a])=R:=by rw [<-hR,iE,<-hs,qDn (by omega)];rfl
    repeat' (first|refine az ?_ ?_|(refine aa 8 rfl ?_;refine aK (ae rfl rfl (av rfl rfl) (aB [a] rfl rfl rfl rfl) rfl aE aE) rfl rfl rfl ?_)|refine ay ?_|exact aA|refine ax fun hb=>?_|(refine gG (qf [(1,50)]) ?_;exact ak))
 | false =>
  have hl0:0<l.length:=List.length_pos_iff.2 fun e=>by rw [e] at hE;cases hE
  rw [hE,qCf] at hR;refine gN func265 rfl (fun b W=>by kernel_rfl) (by cases R <;> rfl) (qNl rfl) ?_;refine aP (fun c ρ a w hr=>ky (t:=1) (i:=4) hr rfl rfl) (fun hx=>?_);obtain ⟨hlen,hne⟩:=hx;obtain ⟨e,rfl⟩:=hne hl0;cases hg:qH k a l with
  | false =>
   rw [hg] at hR;obtain rfl:=hR;repeat' (first|refine az ?_ ?_|refine ay ?_|exact aA|refine ax fun hb=>?_|(refine gG (qf []) ?_;exact .tup ⟨.one (.any _),.one (fD rfl),trivial⟩))
   all_goals (exfalso;revert hg;simp [qH, *];try omega)
  | true =>
   rw [hg,qCt] at hR;obtain ⟨⟨h1,h2⟩,h3⟩:(1<=k/\k<=(l.length:Int))/\a=lp:=by simpa [qH] using hg
   subst h3;refine ao ?_;refine ab (fun x:Nat×List Tm=>x.1<=l.length/\x.2.length+jg (l.drop x.1)<=1000/\Cr (l.drop x.1) x.2=R) (fun x=>bC [0,3,1000] [(0,.c (.own 1000)),(3,.c (.ptr 3 0)),(7,.i x.1)] [(3,.box 66 (CR (e+1) k lp l)),(1000,.arr 63 da x.2)]) (fun x=>l.length-x.1) (0,acc) ⟨Nat.zero_le _,by simpa using (by omega),hR⟩ (by exact a8 (qf [(1000,0)])) ?_;rintro ⟨i,acc1⟩ ⟨hi,hc,hs⟩;dsimp only at *
   by_cases hlt:i<l.length
   ·rw [qDc hlt] at hs hc;rw [xq] at hs;rw [gp] at hc;have kS:=ih l[i] (List.getElem_mem hlt) e acc1 (by omega);have hlen2:=Hf l[i] acc1;clear ih;cases h1:yy l[i] acc1 with
    | none =>
     rw [h1] at hs kS;obtain rfl:=hs;repeat' (first|refine az ?_ ?_|refine aa 9 rfl (cH (qf [(0,1000),(1,1001)]) kS ?_)|refine ay ?_|exact aA|refine ax fun hb=>?_|(refine gG (qf []) ?_;exact .tup ⟨.one (.any _),.one (fD rfl),trivial⟩))
    | some r =>
     rw [h1] at hs kS;have hlen3:=hlen2 r h1;repeat' (first|refine az ?_ ?_|refine aa 9 rfl (cH (qf [(0,1000),(1,1001)]) kS ?_)|refine ay ?_|exact aA|refine ax fun hb=>?_)
     exact Rh
   ·rw [qDn (by omega)] at hs;obtain rfl:=hs;refine ao ?_
    (refine gG (qf [(1,1000)]) ?_;exact ak)
theorem pw (d:Nat) (x:Ex):FSpec prog 173 [x.a d] [] [] (.tup [.one (.sl da (cR x)),.one (.sc (.bool (nZ x)))]) []:=by
 obtain ⟨v,hv⟩:=qGe (nZ x);obtain ⟨T,hT⟩:=qGe (cR x);have hcl:=uu x [];rw [hv,hT];unfold cR at hT;rw [hv] at hT;unfold nZ at hv;have hcnt:=x.cnt_pos;cases hk:Cp x with
 | false =>
  obtain rfl:false=v:=by rw [<-hv,hk];rfl
  obtain rfl:=hT;have kN:=Ed x d (n:=0) (by rw [hk];rfl);refine aS func173 ?_;refine ao ?_
  (refine gG (qf []) ?_;exact ak)
 | true =>
  have kN:=Ed x d (n:=x.cnt) (by rw [hk];rfl);have h24:x.cnt<=24:=by have h:=hk;simp [Cp] at h;exact h.2
  have kA:=(O3 x d [] (by simp;omega)).nil0 (by decide) fun q k=>rfl;rw [hk,Bool.true_and] at hv;rw [DM] at kA;cases hs:zW x with
  | false =>
   obtain rfl:false=v:=by rw [<-hv,hs];rfl
   obtain rfl:=hT;rw [hs] at kA;refine aS func173 ?_;exact Ro
  | true =>
   rw [hs,Bool.true_and] at hv;rw [hs,if_pos rfl] at kA;obtain ⟨L,hL⟩:=qGe (ge x []);rw [hL] at hv hT kA hcl;simp only [List.length_nil,Nat.zero_add] at hcl;refine aS func173 ?_;by_cases h8:8<L.length
   ·have hno:¬sC L:=fun h=>by have:=h.1;omega
    obtain rfl:false=v:=by rw [<-hv,qDf hno]
    obtain rfl:=hT;exact Ro
   repeat' (first|refine az ?_ ?_|(refine aa 9 rfl ?_;first|(refine cB [] kN ?_)|(refine cH (qf [(0,1000),(1,1001)]) kA ?_))|refine ay ?_|exact aA|refine ax fun hb=>?_)
   refine ab (fun i=>i<=L.length/\Dist L i 0) (fun i=>bC [1001] [(4,.c (.own 1001)),(6,.i i)] [(1001,.arr 63 da L)]) (fun i=>L.length-i) 0 ⟨Nat.zero_le _,Dist.start L⟩ aL ?_;rintro i ⟨hi,hd⟩;by_cases hlt:i<L.length
   ·refine ao ?_;refine ab (fun j=>j<=i/\Dist L i j) (fun j=>bC [1001] [(4,.c (.own 1001)),(6,.i i),(7,.i j)] [(1001,.arr 63 da L)]) (fun j=>i-j) 0 ⟨Nat.zero_le _,hd⟩ aL ?_;rintro j ⟨hj,hd⟩;by_cases hji:j<i
    ·repeat' (first
      | refine az ?_ ?_
      | refine ay ?_
      | exact aA|refine ax fun hb=>?_)
     ·have hno:¬sC L:=Dist.not hlt hji (toList_inj hb);obtain rfl:false=v:=by rw [<-hv,qDf hno]
      obtain rfl:=hT;refine gG (qf []) ?_;exact ak
     ·refine ⟨j+1,⟨by omega,hd.step hlt hji fun e=>hb (by rw [e])⟩,by omega,?_⟩;exact aL
    ·refine ao ?_;refine ⟨i+1,⟨by omega,hd.row hji⟩,by omega,?_⟩;exact aL
   ·have hok:sC L:=⟨by omega,hd.all hlt⟩;obtain rfl:true=v:=by rw [<-hv,qDt hok]
    obtain rfl:=hT;refine ao ?_
    (refine gG (qf []) ?_;exact ak)
theorem CS (d:Nat) (x:Ex):FSpec prog 84 [x.a d] [] [] (.b (nZ x)) []:=by
 refine aS func84 ?_;have:=pw d x;exact QY
theorem Ee (d:Nat) (x:Ex):FSpec prog 124 [x.a d] [] [] (.c (.sl da (cR x))) []:=by
 refine aS func124 ?_;have:=pw d x;exact QY
theorem zm (d:Nat) (x:Ex):FSpec prog 108 [x.a d] [] [] (.b (nZ x)) []:=by
 obtain ⟨v,hv⟩:=qGe (nZ x);rw [hv];rw [M1] at hv;have kP:=LK x d [] (by simp);have h0:=x.dep_pos;refine aS func108 ?_;cases hk:Cp x with
 | false =>
  rw [hk] at hv;obtain rfl:false=v:=hv;have:=De x d (n:=0) (by rw [hk];rfl);exact QY
 | true =>
  rw [hk,Bool.true_and] at hv;repeat' (first|refine az ?_ ?_|((fail_if_success (first|refine po 2 ?_|refine pp 2 ?_));refine ay ?_)|exact aA|refine ax fun hb=>?_)
  refine eG 3 0 1000 63 da rfl rfl rfl rfl ?_;cases hp:Fo x [] with
  | none =>
   rw [hp] at kP hv;obtain rfl:false=v:=hv;exact Rk
  | some r =>
   rw [hp] at kP hv;obtain rfl:true=v:=hv;exact Rk
theorem PM (l:List Tm) (a:Tm):FSpec prog 340 [.one (.sl da l),a.a] [] [] (.i (zY a 0 l)) []:=by
 obtain ⟨v,hv⟩:=qGe (zY a 0 l);rw [hv];refine aS func340 ?_;refine aP (fun c ρ a w hr=>ck (t:=0) hr rfl) (fun hl0=>?_);refine ao ?_;refine ab (fun i=>i<=l.length/\zY a i (l.drop i)=v) (fun i=>bC [3] [(0,.c (.sl da l)),(3,.c (.ptr 3 0)),(7,.i l.length),(8,.i i)] [(3,.box 63 [.sc (.string a.name),.sc (.int .i64 a.am.mode),.sc (.int .i64 a.am.units)])]) (fun i=>l.length-i) 0 ⟨Nat.zero_le _,hv⟩ aL ?_;rintro i ⟨hi,hs⟩;by_cases hlt:i<l.length
 ·rw [qDc hlt,xt] at hs;repeat' (first|refine az ?_ ?_|refine ay ?_|exact aA|refine ax fun hb=>?_)
  ·exact Rx
  ·refine ⟨i+1,⟨by omega,?_⟩,by omega,?_⟩
   ·rw [<-hs];simp [*]
   ·exact aL
 ·exact Ra
theorem Jc (l:List Tm) (a:Tm) {v:Bool} (hv:lz a l=v):FSpec prog 294 [.one (.sl da l),a.a] [] [] (.b v) []:=by
 refine aS func294 ?_;have:=PM l a;refine ao ?_;refine eR ?_;rcases xu a l 0 [] with ⟨h1,h2,_⟩|⟨i,_,h1,h2,_⟩
 ·rw [h1,<-hv,h2];rfl
 ·rw [h1,<-hv,h2];simp
theorem Jd:∀(x:Ex) (d:Nat) (acc:List Tm),acc.length+x.cnt<=1000->FSpec prog 206 [.one (.own 0),x.a d] [(0,.arr 63 da acc)] [1] (.c (.own 1)) [(0,none),(1,some (.arr 63 da (ge x acc)))]:=by
 refine Ex.ind (fun k a l ih=>?_);intro d acc hl;rw [Ex.cnt_mk] at hl;obtain ⟨R,hR⟩:=qGe (ge (.mk k a l) acc);rw [hR];rw [mK] at hR;show FSpec prog 206 [.one (.own 0),.ag (CR d k a l)] [(0,.arr 63 da acc)] [1] (.c (.own 1)) [(0,none),(1,some (.arr 63 da R))];refine aS func206 ?_;cases hE:l.isEmpty with
 | true =>
  obtain rfl:=List.isEmpty_iff.1 hE;rw [hE,qCt,iE] at hR;cases hh:lz a acc with
  | true =>
   rw [hh] at hR;obtain rfl:acc=R:=hR;repeat' (first|refine az ?_ ?_|refine aa 9 rfl (cB [0] (Jc acc a hh) ?_)|refine ay ?_|exact aA|refine ax fun hb=>?_|(refine cn (qf [(1,0)]) ?_;exact ak))
  | false =>
   rw [hh] at hR;obtain rfl:acc++[a]=R:=hR;repeat' (first|refine az ?_ ?_|(refine aa 8 rfl ?_;refine aK (ae rfl rfl (av rfl rfl) (aB [a] rfl rfl rfl rfl) rfl aE aE) rfl rfl rfl ?_)|refine aa 9 rfl (cB [0] (Jc acc a hh) ?_)|refine ay ?_|exact aA|refine ax fun hb=>?_|(refine cn (qf [(1,20)]) ?_;exact ak))
 | false =>
  have hl0:0<l.length:=List.length_pos_iff.2 fun e=>by rw [e] at hE;cases hE
  rw [hE,qCf] at hR;refine aP (fun c ρ a w hr=>ky (t:=1) (i:=4) hr rfl rfl) (fun hx=>?_);obtain ⟨hlen,hne⟩:=hx;obtain ⟨e,rfl⟩:=hne hl0;refine ao ?_;refine ab (fun x:Nat×List Tm=>x.1<=l.length/\x.2.length+jg (l.drop x.1)<=1000/\ia (l.drop x.1) x.2=R) (fun x=>bC [0,1000] [(0,.c (.own 1000)),(22,.c (.sl (qF (e+1)) l)),(23,.i l.length),(24,.i x.1)] [(1000,.arr 63 da x.2)]) (fun x=>l.length-x.1) (0,acc) ⟨Nat.zero_le _,by simpa using (by omega),hR⟩ (by exact a8 (qf [(1000,0)])) ?_;rintro ⟨i,acc1⟩ ⟨hi,hc,hs⟩;dsimp only at *
  by_cases hlt:i<l.length
  ·rw [qDc hlt] at hs hc;rw [gt] at hs;rw [gp] at hc;have kS:=ih l[i] (List.getElem_mem hlt) e acc1 (by omega);have hlen2:=uu l[i] acc1;obtain ⟨r,h1⟩:=qGe (ge l[i] acc1);rw [h1] at hs kS hlen2;clear ih h1;repeat' (first|refine az ?_ ?_|refine aa 9 rfl (cH (qf [(0,1000),(1,1001)]) kS ?_)|refine ay ?_|exact aA|refine ax fun hb=>?_)
   exact Rh
  ·rw [qDn (by omega)] at hs;obtain rfl:acc1=R:=hs;refine ao ?_
   (refine cn (qf [(1,1000)]) ?_;exact ak)
theorem NZ (d:Nat) (x:Ex) {L:List Tm} (hL:cR x=L):FSpec prog 117 [x.a d] [] [] (.c (.sl da L)) []:=by
 subst hL;unfold cR;refine aS func117 ?_;cases hv:nZ x with
 | false =>
  have:=zm d x;exact QY
 | true =>
  have h24:x.cnt<=24:=by have h:=hv;simp [nZ,Cp] at h;exact h.1.2
  have kA:=(Jd x d [] (by simp;omega)).nil0 (by decide) fun q k=>rfl;repeat' (first|refine az ?_ ?_|(refine aa 9 rfl ?_;first|(refine cB [] (zm d x) ?_)|(refine cH (qf [(0,1000),(1,1001)]) kA ?_))|refine ay ?_|exact aA|(refine ax fun hb=>?_;first|(simp [hv] at hb;done)|skip)|exact aT|fail)
end Go.Proofs.YtkkbopkbjacfmaaGreatDoor
