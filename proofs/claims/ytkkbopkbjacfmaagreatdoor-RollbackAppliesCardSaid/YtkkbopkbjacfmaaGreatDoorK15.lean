/- Part K15 of a proof of statements of chapter 15 (no condition). -/
import Derived.Test.YtkkbopkbjacfmaaGreatDoorK11
import Derived.Test.YtkkbopkbjacfmaaGreatDoorK12
set_option linter.unusedVariables false
set_option linter.unusedSimpArgs false
set_option maxRecDepth 100000
set_option maxHeartbeats 64000000
namespace Go.Proofs.YtkkbopkbjacfmaaGreatDoor
open Go.RowKit Go.Proofs.Tryz
theorem mR (m:Int):FSpec prog 178 [iV m] [] [] (.b (bP m)) []:=by
 unfold bP;refine aS func178 ?_;repeat' (first|refine az ?_ ?_|refine ay ?_|exact aA|refine ax fun hb=>?_)
 all_goals (refine eR ?_;simp [*])
theorem mS (x:Am):FSpec prog 166 [x.a] [] [] (.b (bj x)) []:=by
 have h0:bP 0=false:=rfl;unfold bj;refine aS func166 ?_;have:=mR x.mode;repeat' (first|refine az ?_ ?_|refine fV ?_|refine ay ?_|exact aA|refine ax fun hb=>?_)
 all_goals (refine eR ?_;first|(simp [*];done)|(simp [*] <;> rfl))
theorem D8 (a b:Int):FSpec prog 91 [iV a,iV b] [] [] (.b (dK a b)) []:=by
 unfold dK;refine aS func91 ?_;repeat' (first|refine az ?_ ?_|(refine aa 9 rfl ?_;first|(refine cB [] (mR a) ?_)|(refine cB [] (mR b) ?_))|refine ay ?_|exact aA|refine ax fun hb=>?_)
 all_goals (refine eR ?_;first|(simp [*];done)|(simp_all [bP] <;> rfl))
theorem O1 (a b:Int):FSpec prog 218 [iV a,iV b] [] [] (.b (lP a b)) []:=by
 unfold lP;refine aS func218 ?_;repeat' (first|refine az ?_ ?_|(refine aa 9 rfl ?_;first|(refine cB [] (mR a) ?_)|(refine cB [] (mR b) ?_))|refine ay ?_|exact aA|refine ax fun hb=>?_)
 all_goals (refine eR ?_;first|(simp [*];done)|(simp_all [bP] <;> rfl))
theorem Qe (a b:Int):FSpec prog 359 [iV a,iV b] [] [] (.i (yQ a b)) []:=by
 obtain ⟨v,hv⟩:=qGe (yQ a b);rw [hv];refine aS func359 ?_;refine ao ?_;refine ab (fun x:Nat×Int=>x.1<=5/\x.2+x.1=6/\Nw a b x.1 x.2=v) (fun x=>bC [] [(0,.i a),(1,.i b),(5,.i x.2)] []) (fun x=>x.1) (5,1) ⟨by decide,rfl,hv⟩ aL ?_;rintro ⟨n,m⟩ ⟨h5,hm,hs⟩;dsimp only at *
 cases n with
 | zero =>
  refine ao ?_;exact eR (congrArg _ hs)
 | succ n =>
  unfold Nw at hs;repeat' (first|refine az ?_ ?_|(refine aa 9 rfl ?_;first|(refine cB [] (D8 m a) ?_)|(refine cB [] (D8 m b) ?_))|refine ay ?_|exact aA|refine ax fun hb=>?_)
  ·refine eR (congrArg _ ?_);rw [<-hs];simp [*]
  all_goals
   refine ⟨(n,m+1),⟨by dsimp only;omega,by dsimp only;omega,?_⟩,by dsimp only;omega,?_⟩
   ·rw [<-hs];simp [*]
   ·exact aL
theorem mT (r:Rs):FSpec prog 176 [r.a] [] [] (.b (aW r)) []:=by
 unfold aW;refine aS func176 ?_;repeat' (first|refine az ?_ ?_|refine ay ?_|exact aA|refine ax fun hb=>?_)
 all_goals (refine eR ?_;simp [*])
theorem eH (x:Am):FSpec prog 32 [x.a] [] [] (.b (aJ x)) []:=by
 refine aS func32 ?_;refine ao ?_;exact eR rfl
theorem iN (r:Rs) (x:Am):FSpec prog 177 [r.a,x.a] [] [] (.b (aH r x)) []:=by
 unfold aH;refine aS func177 ?_;have:=mT r;have:=mR x.mode;repeat' (first|refine az ?_ ?_|refine fV ?_|refine ay ?_|exact aA|refine ax fun hb=>?_)
 all_goals (refine eR ?_;simp [*] <;> rfl)
theorem vi (r:Rs) (x:Am):FSpec prog 90 [r.a,x.a] [] [] (.b (bI r x)) []:=by
 unfold bI;refine aS func90 ?_;have:=mT r;have:=eH x;have:=iN r x;repeat' (first|refine az ?_ ?_|refine fV ?_|refine ay ?_|exact aA|refine ax fun hb=>?_)
 all_goals (refine eR ?_;simp [*])
theorem dt (r:Rs) (x y:Am):FSpec prog 33 [r.a,x.a,y.a] [] [] (.b (bc r x y)) []:=by
 unfold bc;refine aS func33 ?_;repeat' (first|refine az ?_ ?_|(refine aa 9 rfl ?_;first|(refine cB [] (vi r x) ?_)|(refine cB [] (vi r y) ?_)|(refine cB [] (eH y) ?_)|(refine cB [] (eH x) ?_)|(refine cB [] (D8 x.mode y.mode) ?_))|refine ay ?_|exact aA|refine ax fun hb=>?_)
 all_goals (refine eR ?_;simp [*])
theorem Il (r:Rs) (x y:Am):FSpec prog 317 [r.a,x.a,y.a] [] [] (.v (cl r x y).a) []:=by
 obtain ⟨v,hv⟩:=qGe (cl r x y);rw [hv];unfold cl at hv;refine aS func317 ?_;repeat' (first|refine az ?_ ?_|(refine aa 9 rfl ?_;first|(refine cB [] (vi r x) ?_)|(refine cB [] (vi r y) ?_)|(refine cB [] (dt r x y) ?_)|(refine cB [] (dt r y x) ?_)|(refine cB [] (Qe x.mode y.mode) ?_))|refine ay ?_|exact aA|refine ax fun hb=>?_)
 all_goals
  simp only [*,Bool.and_true,Bool.and_false,Bool.true_and,qCt,qCf] at hv;subst hv;exact Rd
theorem Nx {r:Rs} {a:Am} (hp:bI r a=true) (h:r.kind=2):0<=a.units/\a.units<=8:=(lS hp (by omega)).2
theorem CO (a b:Am) (l:List Am):ln a (b :: l)=((!aJ a && !aJ b && !lP a.mode b.mode) || ln a l):=rfl
theorem K1 (r:Rs) (l:List Am):FSpec prog 129 [r.a,.one (.sl E8 l)] [] [] (.b (g9 r l)) []:=by
  obtain ⟨v,hv⟩:=qGe (g9 r l);rw [hv];unfold g9 at hv;refine aS func129 ?_;refine aP (fun c ρ a w hr=>ck (t:=1) hr rfl) (fun hl1=>?_);cases hs:aW r with
  | false =>
    rw [hs] at hv;obtain rfl:false=v:=hv;have:=mT r;exact QY
  | true =>
    rw [hs,Bool.true_and] at hv;have hu:0<=r.units/\r.units<=8:=by have:=cj hs;omega
    have:=mT r;refine ao ?_;refine ab (fun x:Nat×Int=>x.1<=l.length/\0<=x.2/\x.2<=r.units/\eC r x.2 (l.take x.1) (l.drop x.1)=v) (fun x=>bC [2] [(1,.c (.sl E8 l)),(2,.c (.ptr 2 0)),(5,.i x.2),(6,.i x.1)] [(2,.box 74 [.sc (.string r.name),.sc (.int .i64 r.kind),.sc (.int .i64 r.units),.sc (.int .i64 r.home)])]) (fun x=>l.length-x.1) (0,0) ⟨Nat.zero_le _,Int.le_refl _,hu.1,hv⟩ aL ?_;rintro ⟨i,s⟩ ⟨hi,h0,h1,hs⟩;dsimp only at *
    by_cases hlt:i<l.length
    case neg =>
      rw [qDn (by omega)] at hs;obtain rfl:true=v:=hs;exact QY
    rw [qDc hlt,lR,<-List.take_succ_eq_append_getElem hlt] at hs;cases hp:bI r l[i] with
    | false =>
      rw [hp] at hs;obtain rfl:false=v:=hs;have:=vi r l[i];exact QY
    | true =>
      rw [hp,Bool.true_and] at hs;by_cases hk:r.kind=2
      · have h2:=Nx hp hk
        rw [if_pos hk] at hs;have:=vi r l[i];repeat' (first|refine az ?_ ?_|refine fV ?_|refine ay ?_|exact aA|(refine ax fun hb=>?_;first|(simp [hp] at hb;done)|skip))
        · rw [qDf (by omega)] at hs
          obtain rfl:false=v:=hs;exact Rd
        · rw [qDt (by omega),Bool.true_and] at hs
          refine ⟨(i+1,s+l[i].units),⟨by dsimp only;omega,by dsimp only;omega,by dsimp only;omega,hs⟩,by dsimp only;omega,?_⟩;exact aL
      · rw [if_neg hk] at hs
        obtain ⟨c,hc⟩:=qGe (ln l[i] (l.take i));rw [hc] at hs;have hlen:(l.take i).length=i:=by simp;omega
        have:=vi r l[i];refine ao ?_;refine ab (fun k=>k<=i/\ln l[i] ((l.take i).drop k)=c) (fun k=>bC [2] [(1,.c (.sl E8 l)),(2,.c (.ptr 2 0)),(5,.i s),(6,.i i),(7,.i k)] [(2,.box 74 [.sc (.string r.name),.sc (.int .i64 r.kind),.sc (.int .i64 r.units),.sc (.int .i64 r.home)])]) (fun k=>i-k) 0 ⟨Nat.zero_le _,hc⟩ aL ?_;rintro k ⟨hk,hc⟩;by_cases hki:k<i
        · rw [qDc (by omega),CO,List.getElem_take] at hc
          repeat' (first|refine az ?_ ?_|(refine aa 9 rfl ?_;first|(refine cB [] (eH l[i]) ?_)|(refine cB [] (eH l[k]) ?_)|(refine cB [] (O1 l[i].mode l[k].mode) ?_))|refine ay ?_|exact aA|refine ax fun hb=>?_)
          all_goals first
            | (obtain rfl:true=c:=by rw [<-hc];simp [*]
               obtain rfl:false=v:=hs;refine cn (qf []) ?_;exact ak)
            | (refine ⟨k+1,⟨by omega,by rw [<-hc];simp [*]⟩,by omega,?_⟩
               exact aL)
        · rw [qDn (by omega)] at hc
          obtain rfl:false=c:=hc;refine ao ?_;refine ⟨(i+1,s),⟨by dsimp only;omega,by dsimp only;omega,by dsimp only;omega,hs⟩,by dsimp only;omega,?_⟩;exact aL
instance:ST prog E8 185 61 16:=⟨ElTB.mk' underlying185 (.agg #[.int .i64 0,.int .i64 0]) 2 16 (by kernel_rfl) rfl rfl⟩
theorem iO (p q:Pr):FSpec prog 85 [p.a,q.a] [] [] (.i (bH p q)) [] :=
 bD (fun b W=>by kernel_rfl) rfl fun w S ρ vs _ h=>by
  match vs,h with
  | [_,_],⟨h1,h2,_⟩=>rw [Pr.open h1,Pr.open h2];exact (Cf p q w).mono fun _ _=>jb
theorem eS (p:Pr):FSpec prog 83 [p.a] [] [] (.b (gm p)) [] :=
 bD (fun b W=>by kernel_rfl) rfl fun w S ρ vs _ h=>by
  match vs,h with
  | [_],⟨h1,_⟩=>rw [Pr.open h1];exact (Cc p w).mono fun _ _=>jb
theorem Im (l:List Ho) (hl:l.length<=100000):FSpec prog 308 [.one (.sl g8 l)] [] [] (.c (.sl E8 (iA l))) []:=by
 refine aS func308 ?_;refine ao ?_;refine bK 3 1000 61 E8 rfl rfl rfl ?_;refine ab (fun i=>i<=l.length) (fun i=>bC [1000] [(0,.c (.sl g8 l)),(3,.c (.own 1000)),(4,.i i)] [(1000,.arr 61 E8 (iA (l.take i)))]) (fun i=>l.length-i) 0 (Nat.zero_le _) aL ?_;intro i hi;have hlen:(iA (l.take i)).length=i:=by simp [iA];omega
 by_cases hlt:i<l.length
 ·have e:iA (l.take (i+1))=iA (l.take i)++[l[i].am]:=by unfold iA;rw [List.take_succ_eq_append_getElem hlt,List.map_append];rfl
  repeat' (first|refine az ?_ ?_|(refine aa 8 rfl ?_;refine aK (ae rfl rfl (av rfl rfl) (aB [l[i].am] rfl rfl rfl rfl) rfl aE aE) rfl rfl rfl ?_)|refine ay ?_|exact aA|refine ax fun hb=>?_)
  refine ⟨i+1,by omega,by omega,?_⟩;rw [e];exact a8 (qf [(1000,18)])
 ·obtain rfl:i=l.length:=by omega
  rw [List.take_length];exact QY
theorem mU (r:Rs) (l:List Ho):FSpec prog 216 [r.a,.one (.sl g8 l)] [] [] (.b (qD r l)) []:=by
  obtain ⟨v,hv⟩:=qGe (qD r l);rw [hv];unfold qD at hv;refine aS func216 ?_;refine aP (fun c ρ a w hr=>ck (t:=1) hr rfl) (fun hl1=>?_);cases hs:aW r && decide (l.length<=8) with
  | false =>
    rw [hs] at hv;obtain rfl:false=v:=hv;have:=mT r;repeat' (first|refine az ?_ ?_|refine fV ?_|refine ay ?_|exact aA|refine ax fun hb=>?_|exact aT|fail)
    exfalso;revert hs;simp [*];omega
  | true =>
    rw [hs,Bool.true_and] at hv;obtain ⟨hs,h8⟩:aW r=true/\l.length<=8:=by simpa using hs
    have:=mT r;refine ao ?_;refine ab (fun i=>i<=l.length/\(ue r (uf l i) (l.drop i) && g9 r (iA l))=v) (fun i=>bC [2] [(1,.c (.sl g8 l)),(2,.c (.ptr 2 0)),(5,.i i)] [(2,.box 74 [.sc (.string r.name),.sc (.int .i64 r.kind),.sc (.int .i64 r.units),.sc (.int .i64 r.home)])]) (fun i=>l.length-i) 0 ⟨Nat.zero_le _,hv⟩ aL ?_;rintro i ⟨hi,hs⟩;by_cases hlt:i<l.length
    · rw [qDc hlt,xi] at hs
      rcases Nat.eq_zero_or_pos i with h0|h0
      · subst h0
        rw [ug] at hs;have:=eS l[0].proc;have:=iN r l[0].am;repeat' (first|refine az ?_ ?_|refine fV ?_|refine ay ?_|exact aA|(refine ax fun hb=>?_;first|(simp at hb;done)|skip))
        all_goals first
          | (obtain rfl:false=v:=by rw [<-hs];simp [*]
             refine cn (qf []) ?_;exact ak)
          | (refine ⟨1,⟨by omega,by rw [<-hs,jZ hlt rfl];simp [*]⟩,by omega,?_⟩
             exact aL)
      · obtain ⟨m,hm⟩:=qGe (l[i-1])
        have hgm:l[((i:Int)-1).toNat]? = some m:=by rw [show ((i:Int)-1).toNat=i-1 by omega,qGg (by omega),hm]
        rw [xj h0 (by omega) hm] at hs;dsimp only at hs;have:=eS l[i].proc;have:=iN r l[i].am;have:=iO m.proc l[i].proc;repeat' (first|refine az ?_ ?_|refine fV ?_|refine ay ?_|exact aA|refine ax fun hb=>?_)
        all_goals first
          | (obtain rfl:false=v:=by rw [<-hs];first|(simp [*];done)|(rw [decide_eq_false (p:=bH m.proc l[i].proc<0) (by omega)];simp)
             refine cn (qf []) ?_;exact ak)
          | (refine ⟨i+1,⟨by omega,by rw [<-hs,jZ hlt rfl,decide_eq_true (p:=bH m.proc l[i].proc<0) (by omega)];simp [*]⟩,by omega,?_⟩
             exact aL)
    · rw [qDn (by omega)] at hs
      obtain rfl:g9 r (iA l)=v:=hs;have:=Im l (by omega);have:=K1 r (iA l);exact QY
theorem Ny (l:List Ho) (p:Pr):FSpec prog 89 [.one (.sl g8 l),p.a] [] [] (.v (af l p).a) []:=by
 obtain ⟨v,hv⟩:=qGe (af l p);rw [hv];refine aS func89 ?_;refine aP (fun c ρ a w hr=>ck (t:=0) hr rfl) (fun hl0=>?_);refine ao ?_;refine ab (fun i=>i<=l.length/\af (l.drop i) p=v) (fun i=>bC [3,4] [(0,.c (.sl g8 l)),(3,.c (.ptr 3 0)),(4,.c (.ptr 4 0)),(5,.i i)] [(3,.box 42 [.sc (.int .i64 p.site),.sc (.int .i64 p.inc),.sc (.int .i64 p.num)]),(4,.box 61 [.sc (.int .i64 0),.sc (.int .i64 0)])]) (fun i=>l.length-i) 0 ⟨Nat.zero_le _,hv⟩ aL ?_;rintro i ⟨hi,hs⟩;by_cases hlt:i<l.length
 ·rw [qDc hlt,af] at hs;repeat' (first|refine az ?_ ?_|refine ay ?_|exact aA|refine ax fun hb=>?_)
  ·obtain rfl:l[i].am=v:=by rw [<-hs];simp [*]
   exact Rd
  ·exact Rb
 ·rw [qDn (by omega)] at hs;obtain rfl:=hs;exact QY
theorem Io (l:List Ho) (p:Pr) (x:Am) (hl:l.length<=1000000):FSpec prog 170 [.one (.sl g8 l),p.a,x.a] [] [] (.c (.sl g8 (cE l p x))) []:=by
 obtain ⟨R,hR⟩:=qGe (cE l p x);rw [hR];unfold cE at hR;refine aS func170 ?_;have:=eH x;refine ao ?_;refine bK 7 1000 223 g8 rfl rfl rfl ?_;refine ab (fun y:Nat×Bool×List Ho=>y.1<=l.length/\y.2.2.length<=y.1+(bif y.2.1 then 1 else 0)/\y.2.2++(bif y.2.1 then eW (l.drop y.1) p else nr ⟨p,x⟩ (eW (l.drop y.1) p))=R) (fun y=>bC [4,5,1000] [(0,.c (.sl g8 l)),(4,.c (.ptr 4 0)),(5,.c (.ptr 5 0)),(7,.c (.own 1000)),(8,.b y.2.1),(9,.i y.1)] [(4,.box 42 [.sc (.int .i64 p.site),.sc (.int .i64 p.inc),.sc (.int .i64 p.num)]),(5,.box 61 [.sc (.int .i64 x.mode),.sc (.int .i64 x.units)]),(1000,.arr 223 g8 y.2.2)]) (fun y=>l.length-y.1) (0,aJ x,[]) ⟨Nat.zero_le _,Nat.zero_le _,hR⟩ aL ?_;rintro ⟨i,dn,out⟩ ⟨hi,hol,hs⟩;dsimp only at *
 by_cases hlt:i<l.length
 ·rw [qDc hlt,mI] at hs;by_cases hp:l[i].proc=p
  ·rw [qDt hp,qCt] at hs;refine ao ?_;refine ⟨(i+1,dn,out),⟨by dsimp only;omega,by dsimp only;omega,hs⟩,by dsimp only;omega,?_⟩;exact aL
  ·rw [qDf hp,qCf,ip] at hs;cases dn with
   | true =>
    simp only [qCt] at hol;repeat' (first|refine az ?_ ?_|(refine aa 8 rfl ?_;refine aK (ae rfl rfl (av rfl rfl) (aB [l[i]] rfl rfl rfl rfl) rfl aE aE) rfl rfl rfl ?_)|refine ay ?_|exact aA|refine ax fun hb=>?_)
    refine ⟨(i+1,true,out++[l[i]]),⟨by dsimp only;omega,by simp;omega,by rw [<-hs];simp⟩,by dsimp only;omega,?_⟩;exact a8 (qf [(1000,49)])
   | false =>
    simp only [qCf] at hol;repeat' (first|refine az ?_ ?_|(refine aa 8 rfl ?_;first|(refine aK (ae rfl rfl (av rfl rfl) (aB [⟨p,x⟩] rfl rfl rfl rfl) rfl aE aE) rfl rfl rfl ?_)|(refine aK (ae rfl rfl (av rfl rfl) (aB [l[i]] rfl rfl rfl rfl) rfl aE aE) rfl rfl rfl ?_))|refine aa 9 rfl (cB [] (iO l[i].proc p) ?_)|refine ay ?_|exact aA|refine ax fun hb=>?_)
    ·refine ⟨(i+1,true,out++[⟨p,x⟩]++[l[i]]),⟨by dsimp only;omega,by simp;omega,by rw [<-hs];simp [*]⟩,by dsimp only;omega,?_⟩;exact a8 (qf [(1000,49)])
    ·refine ⟨(i+1,false,out++[l[i]]),⟨by dsimp only;omega,by simp;omega,by rw [<-hs];simp [*]⟩,by dsimp only;omega,?_⟩;exact a8 (qf [(1000,49)])
 ·rw [qDn (by omega)] at hs;cases dn with
  | true =>
   simp only [qCt] at hol;obtain rfl:out=R:=by rw [<-hs];simp [eW]
   exact QY
  | false =>
   simp only [qCf] at hol;obtain rfl:out++[⟨p,x⟩]=R:=by rw [<-hs];simp [eW,nr]
   repeat' (first|refine az ?_ ?_|(refine aa 8 rfl ?_;refine aK (ae rfl rfl (av rfl rfl) (aB [⟨p,x⟩] rfl rfl rfl rfl) rfl aE aE) rfl rfl rfl ?_)|refine ay ?_|exact aA|refine ax fun hb=>?_|exact aT|fail)
theorem O2 (r:Rs) (l:List Ho) (p:Pr) (x:Am):FSpec prog 217 [r.a,.one (.sl g8 l),p.a,x.a] [] [] (.b (gi r l p x)) []:=by
 obtain ⟨v,hv⟩:=qGe (gi r l p x);rw [hv];unfold gi xk at hv;refine aS func217 ?_;cases hh:qD r l with
 | false =>
  rw [hh] at hv;obtain rfl:false=v:=hv;have:=mU r l;exact QY
 | true =>
  have h8:l.length<=8:=by have:=hh;simp [qD] at this;omega
  repeat' (first|refine az ?_ ?_|(refine aa 9 rfl ?_;first|(refine cB [] (mU r l) ?_)|(refine cB [] (eS p) ?_)|(refine cB [] (iN r x) ?_)|(refine cC [] (Io l p x (by omega)) ?_)|(refine cB [] (mU r (cE l p x)) ?_))|refine ay ?_|exact aA|(refine ax fun hb=>?_;first|(simp [hh] at hb;done)|skip))
  all_goals (refine eR ?_;rw [<-hv];simp [*])
def Wt.a (x:Wt):V0:=.ag [.sc (.int .i64 x.proc.site),.sc (.int .i64 x.proc.inc),.sc (.int .i64 x.proc.num),.sc (.int .i64 x.am.mode),.sc (.int .i64 x.am.units),.sc (.int .i64 x.prio),.sc (.int .i64 x.passed)]
theorem iP (x:Wt):FSpec prog 360 [x.a] [] [] (.b (uc x)) []:=by
 unfold uc;refine aS func360 ?_;have:=eS x.proc;have:=mS x.am;repeat' (first|refine az ?_ ?_|refine fV ?_|refine ay ?_|exact aA|refine ax fun hb=>?_)
 all_goals (refine eR ?_;simp [*])
theorem oh (l:List Wt) (p:Pr):FSpec prog 86 [.one (.sl gc l),p.a] [] [] (.i (dM l p)) []:=by
 obtain ⟨v,hv⟩:=qGe (dM l p);rw [hv];refine aS func86 ?_;refine aP (fun c ρ a w hr=>ck (t:=0) hr rfl) (fun hl0=>?_);refine ao ?_;refine ab (fun i=>i<=l.length/\gZ p i (l.drop i)=v) (fun i=>bC [3] [(0,.c (.sl gc l)),(3,.c (.ptr 3 0)),(5,.i i)] [(3,.box 42 [.sc (.int .i64 p.site),.sc (.int .i64 p.inc),.sc (.int .i64 p.num)])]) (fun i=>l.length-i) 0 ⟨Nat.zero_le _,hv⟩ aL ?_;rintro i ⟨hi,hs⟩;by_cases hlt:i<l.length
 ·rw [qDc hlt,eL] at hs;repeat' (first|refine az ?_ ?_|refine ay ?_|exact aA|refine ax fun hb=>?_)
  ·exact Rx
  ·exact Rb
 ·exact Ra
theorem sT (l:List Wt):FSpec prog 321 [.one (.sl gc l)] [] [] (.b (fe l)) []:=by
  obtain ⟨v,hv⟩:=qGe (fe l);rw [hv];unfold fe at hv;refine aS func321 ?_;refine aP (fun c ρ a w hr=>ck (t:=0) hr rfl) (fun hl0=>?_);by_cases h8:8<l.length
  · rw [qDf (by omega)] at hv
    obtain rfl:false=v:=hv;exact QY
  rw [qDt (by omega),Bool.true_and] at hv;refine ao ?_;refine ab (fun i=>i<=l.length/\yr l i (l.drop i)=v) (fun i=>bC [] [(0,.c (.sl gc l)),(3,.i i)] []) (fun i=>l.length-i) 0 ⟨Nat.zero_le _,hv⟩ aL ?_;rintro i ⟨hi,hs⟩;by_cases hlt:i<l.length
  · rw [qDc hlt,mH] at hs
    have:=iP l[i];have:=oh l l[i].proc;repeat' (first|refine az ?_ ?_|refine fV ?_|refine ay ?_|exact aA|refine ax fun hb=>?_)
    all_goals first
      | (obtain rfl:false=v:=by rw [<-hs];simp [*]
         refine cn (qf []) ?_;exact ak)
      | (refine ⟨i+1,⟨by omega,by rw [<-hs];simp [*]⟩,by omega,?_⟩
         exact aL)
  · rw [qDn (by omega)] at hs
    obtain rfl:true=v:=hs;exact QY
theorem pq (l:List Wt) (p:Pr) (hl:l.length<=100000):FSpec prog 168 [.one (.sl gc l),p.a] [] [] (.tup [.one (.sl gc (bX l p)),.one (.sc (.bool (decide ((bX l p).length<l.length))))]) []:=by
 rw [show decide ((bX l p).length<l.length)=decide (((bX l p).length:Int)<(l.length:Int)) by simp];obtain ⟨R,hR⟩:=qGe (bX l p);rw [hR];refine aS func168 ?_;refine ao ?_;refine bK 6 1000 154 gc rfl rfl rfl ?_;refine ab (fun x:Nat×List Wt=>x.1<=l.length/\x.2.length<=x.1/\x.2++bX (l.drop x.1) p=R) (fun x=>bC [3,1000] [(0,.c (.sl gc l)),(3,.c (.ptr 3 0)),(6,.c (.own 1000)),(7,.i x.1)] [(3,.box 42 [.sc (.int .i64 p.site),.sc (.int .i64 p.inc),.sc (.int .i64 p.num)]),(1000,.arr 154 gc x.2)]) (fun x=>l.length-x.1) (0,[]) ⟨Nat.zero_le _,Nat.le_refl _,hR⟩ aL ?_;rintro ⟨i,out⟩ ⟨hi,ho,hs⟩;dsimp only at *
 by_cases hlt:i<l.length
 ·rw [qDc hlt,bX,List.filter_cons] at hs;repeat' (first|refine az ?_ ?_|(refine aa 8 rfl ?_;refine aK (ae rfl rfl (av rfl rfl) (aB [l[i]] rfl rfl rfl rfl) rfl aE aE) rfl rfl rfl ?_)|refine ay ?_|exact aA|refine ax fun hb=>?_)
  ·refine ⟨(i+1,out++[l[i]]),⟨by dsimp only;omega,by simp;omega,by rw [<-hs];simp [bX, *]⟩,by dsimp only;omega,?_⟩;exact a8 (qf [(1000,27)])
  ·exact RP
 ·rw [qDn (by omega)] at hs;obtain rfl:out=R:=by rw [<-hs];simp [bX]
  refine ao ?_
  (refine gG (qf []) ?_;exact ak)
theorem D9 {all:List Wt}:∀{l:List Wt} {k:Nat},yr all k l=true->∀x∈l,uc x=true
 | [],_,_,_,hx=>absurd hx (by simp)
 | y :: l,k,h,x,hx=>by
  rw [mH] at h;simp only [qBa] at h;rcases List.mem_cons.1 hx with rfl|hx
  ·exact h.1.1
  ·exact D9 h.2 x hx
theorem Ip (l:List Wt) (x:Wt):FSpec prog 361 [.one (.sl gc l),x.a] [] [] (.tup [.one (.sl gc (nv l x).2),.one .any,.one (.sc (.int .i64 (nv l x).1))]) []:=by
 obtain ⟨⟨E,R⟩,hR⟩:∃R,nv l x=R:=⟨_,rfl⟩;rw [hR];unfold nv at hR;dsimp only;refine aS func361 ?_;cases h1:fe l with
 | false =>
  rw [h1] at hR;injection hR with e1 e2;subst e1;subst e2;have:=sT l;refine ao ?_
  (refine fk (qf []) ?_;exact ak)
 | true =>
  rw [h1] at hR;cases h2:uc x && decide (x.passed=0) with
  | false =>
   rw [h2] at hR;injection hR with e1 e2;subst e1;subst e2;repeat' (first|refine az ?_ ?_|(refine aa 9 rfl ?_;first|(refine cB [] (sT l) ?_)|(refine cB [] (iP x) ?_))|refine ay ?_|exact aA|(refine ax fun hb=>?_;first|(simp [h1] at hb;done)|skip)|(refine fk (qf []) ?_;exact ak))
   all_goals (exfalso;revert h2;simp [*])
  | true =>
   rw [h2] at hR;obtain ⟨h2,h3⟩:uc x=true/\x.passed=0:=by simpa using h2
   by_cases h4:0<=dM l x.proc
   ·rw [qDt h4] at hR;injection hR with e1 e2;subst e1;subst e2;have:=sT l;have:=iP x;have:=oh l x.proc;refine ao ?_
    (refine fk (qf []) ?_;exact ak)
   rw [qDf h4] at hR;have h8:l.length<=8:=by have:=h1;simp [fe] at this;exact this.1
   by_cases h5:l.length=8
   ·rw [qDt h5] at hR;injection hR with e1 e2;subst e1;subst e2;have:=sT l;have:=iP x;have:=oh l x.proc;refine ao ?_
    (refine fk (qf []) ?_;exact ak)
   rw [qDf h5] at hR;obtain ⟨rfl,hW⟩:0=E/\jH l x=R:=by injection hR with e1 e2;exact ⟨e1,e2⟩
   clear hR;have hpas:∀i (h:i<l.length),0<=l[i].passed/\l[i].passed<=3:=fun i h=>by
    have h6:=h1;simp only [fe,qBa] at h6;have h7:=D9 h6.2 _ (List.getElem_mem h);simp [uc] at h7;omega
   obtain ⟨K,hK⟩:=qGe (mf x l l.length);unfold jH at hW;rw [hK] at hW;have:=sT l;have:=iP x;have:=oh l x.proc;refine ao ?_;refine ab (fun k=>k<=l.length/\mf x l k=K) (fun k=>bC [3] [(0,.c (.sl gc l)),(3,.c (.ptr 3 0)),(7,.i k)] [(3,.box 154 [.sc (.int .i64 x.proc.site),.sc (.int .i64 x.proc.inc),.sc (.int .i64 x.proc.num),.sc (.int .i64 x.am.mode),.sc (.int .i64 x.am.units),.sc (.int .i64 x.prio),.sc (.int .i64 x.passed)])]) (fun k=>k) l.length ⟨Nat.le_refl _,hK⟩ aL ?_;rintro k ⟨hk,hs⟩;have hcase:(k=0/\k=K)\/∃m,0<k/\l[((k:Int)-1).toNat]? = some m/\(m.prio<x.prio/\m.passed<3/\mf x l (k-1)=K\/¬(m.prio<x.prio/\m.passed<3)/\k=K):=by
    cases k with
    | zero=>exact .inl ⟨rfl,hs⟩
    | succ j =>
     refine .inr ⟨l[j],by omega,by rw [show (((j+1:Nat):Int)-1).toNat=j by omega,qGg (by omega)],?_⟩;rw [mf,qGg (by omega)] at hs;dsimp only at hs;by_cases h6:l[j].prio<x.prio/\l[j].passed<3
     ·rw [qDt h6.1,qDt h6.2] at hs;exact .inl ⟨h6.1,h6.2,hs⟩
     ·rw [<-Bool.decide_and,qDf h6] at hs;exact .inr ⟨h6,hs⟩
   rcases hcase with ⟨h0,rfl⟩|⟨m,h0,hgm,⟨h6,h7,h9⟩|⟨h6,rfl⟩⟩
   case inr.inl =>
    refine ao ?_;refine ⟨k-1,⟨by omega,h9⟩,by omega,?_⟩;exact aL
   all_goals
    have hlk:(l.take k).length=k:=by simp;omega
    repeat' (first|refine az ?_ ?_|(refine aa 8 rfl ?_;refine aK (ae rfl rfl (av rfl rfl) (aB [x] rfl rfl rfl rfl) rfl aE aE) rfl rfl rfl ?_)|refine ay ?_|exact aA|(refine ax fun hb=>?_;first|(simp at hb;done)|skip))
   all_goals
    refine ab (fun y:Nat×List Wt=>y.1<=l.length/\y.2.length<=y.1+1/\y.2++(l.drop y.1).map uT=R) (fun y=>bC [1000] [(0,.c (.sl gc l)),(7,.i k),(8,.c (.own 1000)),(9,.i y.1)] [(1000,.arr 154 gc y.2)]) (fun y=>l.length-y.1) (k,l.take k++[x]) ⟨hk,by simp;omega,by rw [<-hW];simp⟩ (by exact a8 (qf [(1000,63)])) ?_;rintro ⟨i,out⟩ ⟨hi,ho,hs⟩;dsimp only at *
    by_cases hlt:i<l.length
    ·have hp:=hpas i hlt;rw [qDc hlt,List.map_cons] at hs;repeat' (first|refine az ?_ ?_|(refine aa 8 rfl ?_;refine aK (ae rfl rfl (av rfl rfl) (aB [uT l[i]] rfl rfl rfl rfl) rfl aE aE) rfl rfl rfl ?_)|refine ay ?_|exact aA|refine ax fun hb=>?_)
     refine ⟨(i+1,out++[uT l[i]]),⟨by dsimp only;omega,by simp;omega,by rw [<-hs];simp⟩,by dsimp only;omega,?_⟩;exact a8 (qf [(1000,82)])
    ·rw [qDn (by omega)] at hs;obtain rfl:out=R:=by rw [<-hs];simp
     refine ao ?_
     (refine fk (qf []) ?_;exact ak)
end Go.Proofs.YtkkbopkbjacfmaaGreatDoor
