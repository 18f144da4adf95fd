/- Part 10 of 33 of the proof of centralDoes_holds (no condition). -/
import Derived.Test.YtjndcdcbjidocaaGreatDoorL09
set_option linter.unusedVariables false
set_option linter.unusedSimpArgs false
set_option maxRecDepth 100000
set_option maxHeartbeats 64000000
namespace Go.Proofs.YtjndcdcbjidocaaGreatDoor
open Go.RowKit Go.Proofs.Tryz
instance:ST prog zt 275 37 16:=⟨ElTB.mk' underlying275 (.agg #[.int .i64 0,.int .i64 0]) 2 16 (by kernel_rfl) rfl rfl⟩
theorem i6 (p q:Pr):FSpec prog 32 [p.a,q.a] [] [] (.i (bE p q)) [] :=
 cz (fun b W=>by kernel_rfl) rfl fun w S ρ vs _ h=>by
  match vs,h with
  | [_,_],⟨h1,h2,_⟩=>rw [Pr.open h1,Pr.open h2];exact (yg p q w).mono fun _ _=>gT
theorem ga (p:Pr):FSpec prog 62 [p.a] [] [] (.b (jl p)) [] :=
 cz (fun b W=>by kernel_rfl) rfl fun w S ρ vs _ h=>by
  match vs,h with
  | [_],⟨h1,_⟩=>rw [Pr.open h1];exact (yd p w).mono fun _ _=>gT
theorem Dr (l:List Ho) (hl:l.length≤100000):FSpec prog 316 [.one (.sl fV l)] [] [] (.c (.sl zt (iv l))) []:=by
 refine aP func316 ?_;repeat' (first|refine af ?_ ?_|refine ae ?_|exact ah|refine ab fun hb=>?_)
 refine bV 3 1000 37 zt rfl rfl rfl ?_;refine ai (fun i=>i≤l.length) (fun i=>bt [1000] [(0,.c (.sl fV l)),(3,.c (.own 1000)),(4,.i i)] [(1000,.arr 37 zt (iv (l.take i)))]) (fun i=>l.length-i) 0 (Nat.zero_le _) aN ?_;intro i hi;have hlen:(iv (l.take i)).length=i:=by simp [iv];omega
 by_cases hlt:i<l.length
 ·have e:iv (l.take (i+1))=iv (l.take i)++[l[i].am]:=by unfold iv;rw [List.take_succ_eq_append_getElem hlt,List.map_append];rfl
  repeat' (first|refine af ?_ ?_|(refine aa 8 rfl ?_;refine aV (ak rfl rfl (aB rfl rfl) (aD [l[i].am] rfl rfl rfl rfl) rfl aL aL) rfl rfl rfl ?_)|refine ae ?_|exact ah|refine ab fun hb=>?_)
  refine ⟨i+1,by omega,by omega,?_⟩;rw [e];exact a8 (qf [(1000,18)])
 ·obtain rfl:i=l.length:=by omega
  rw [List.take_length];repeat' (first|refine af ?_ ?_|refine ae ?_|exact ah|refine ab fun hb=>?_|exact aX|fail)
theorem lX (r:Rs) (l:List Ho):FSpec prog 270 [r.a,.one (.sl fV l)] [] [] (.b (te r l)) []:=by
  obtain ⟨v,hv⟩:∃v,te r l=v:=⟨_,rfl⟩;rw [hv];unfold te at hv;refine aP func270 ?_;refine aM (fun c ρ a w hr=>bz (t:=1) hr rfl) (fun hl1=>?_);cases hs:bc r && decide (l.length≤8) with
  | false =>
    rw [hs] at hv;obtain rfl:false=v:=hv;repeat' (first|refine af ?_ ?_|refine aa 9 rfl (cB [] (lW r) ?_)|refine ae ?_|exact ah|refine ab fun hb=>?_|exact aX|fail)
    exfalso;revert hs;simp [*];omega
  | true =>
    rw [hs,Bool.true_and] at hv;obtain ⟨hs,h8⟩:bc r=true∧l.length≤8:=by simpa using hs
    repeat' (first|refine af ?_ ?_|refine aa 9 rfl (cB [] (lW r) ?_)|refine ae ?_|exact ah|(refine ab fun hb=>?_;first|(simp [hs] at hb;done)|skip))
    refine ai (fun i=>i≤l.length∧(sF r (ql l i) (l.drop i) && ib r (iv l))=v) (fun i=>bt [2] [(1,.c (.sl fV l)),(2,.c (.ptr 2 0)),(5,.i i)] [(2,.box 55 [.sc (.string r.name),.sc (.int .i64 r.kind),.sc (.int .i64 r.units),.sc (.int .i64 r.home)])]) (fun i=>l.length-i) 0 ⟨Nat.zero_le _,hv⟩ aN ?_;rintro i ⟨hi,hs⟩;by_cases hlt:i<l.length
    · rw [List.drop_eq_getElem_cons hlt,tf] at hs
      rcases Nat.eq_zero_or_pos i with h0|h0
      · subst h0
        rw [qm] at hs;repeat' (first|refine af ?_ ?_|(refine aa 9 rfl ?_;first|(refine cB [] (ga l[0].proc) ?_)|(refine cB [] (im r l[0].am) ?_))|refine ae ?_|exact ah|(refine ab fun hb=>?_;first|(simp at hb;done)|skip))
        all_goals first
          | (obtain rfl:false=v:=by rw [←hs];simp [*]
             refine bP (qf []) ?_;exact aj)
          | (refine ⟨1,⟨by omega,by rw [←hs,jr hlt rfl];simp [*]⟩,by omega,?_⟩
             exact aN)
      · obtain ⟨m,hm⟩:∃m,l[i-1]=m:=⟨_,rfl⟩
        have hgm:l[((i:Int)-1).toNat]? = some m:=by rw [show ((i:Int)-1).toNat=i-1 by omega,List.getElem?_eq_getElem (by omega),hm]
        rw [tg h0 (by omega) hm] at hs;dsimp only at hs;repeat' (first|refine af ?_ ?_|(refine aa 9 rfl ?_;first|(refine cB [] (ga l[i].proc) ?_)|(refine cB [] (im r l[i].am) ?_)|(refine cB [] (i6 m.proc l[i].proc) ?_))|refine ae ?_|exact ah|refine ab fun hb=>?_)
        all_goals first
          | (obtain rfl:false=v:=by rw [←hs];first|(simp [*];done)|(rw [decide_eq_false (p:=bE m.proc l[i].proc<0) (by omega)];simp)
             refine bP (qf []) ?_;exact aj)
          | (refine ⟨i+1,⟨by omega,by rw [←hs,jr hlt rfl,decide_eq_true (p:=bE m.proc l[i].proc<0) (by omega)];simp [*]⟩,by omega,?_⟩
             exact aN)
    · rw [List.drop_eq_nil_of_le (by omega)] at hs
      obtain rfl:ib r (iv l)=v:=hs;repeat' (first|refine af ?_ ?_|(refine aa 9 rfl ?_;first|(refine cC [] (Dr l (by omega)) ?_)|(refine cB [] (FW r (iv l)) ?_))|refine ae ?_|exact ah|refine ab fun hb=>?_|exact aX|fail)
theorem Iw (l:List Ho) (p:Pr):FSpec prog 208 [.one (.sl fV l),p.a] [] [] (.v (ao l p).a) []:=by
 obtain ⟨v,hv⟩:∃v,ao l p=v:=⟨_,rfl⟩;rw [hv];refine aP func208 ?_;refine aM (fun c ρ a w hr=>bz (t:=0) hr rfl) (fun hl0=>?_);repeat' (first|refine af ?_ ?_|refine ae ?_|exact ah|refine ab fun hb=>?_)
 refine ai (fun i=>i≤l.length∧ao (l.drop i) p=v) (fun i=>bt [3,4] [(0,.c (.sl fV l)),(3,.c (.ptr 3 0)),(4,.c (.ptr 4 0)),(5,.i i)] [(3,.box 35 [.sc (.int .i64 p.site),.sc (.int .i64 p.inc),.sc (.int .i64 p.num)]),(4,.box 37 [.sc (.int .i64 0),.sc (.int .i64 0)])]) (fun i=>l.length-i) 0 ⟨Nat.zero_le _,hv⟩ aN ?_;rintro i ⟨hi,hs⟩;by_cases hlt:i<l.length
 ·rw [List.drop_eq_getElem_cons hlt,ao] at hs;repeat' (first|refine af ?_ ?_|refine ae ?_|exact ah|refine ab fun hb=>?_)
  ·obtain rfl:l[i].am=v:=by rw [←hs];simp [*]
   refine bP (qf []) ?_;exact aj
  ·refine ⟨i+1,⟨by omega,by rw [←hs];simp [*]⟩,by omega,?_⟩;exact aN
 ·rw [List.drop_eq_nil_of_le (by omega)] at hs;obtain rfl:=hs;repeat' (first|refine af ?_ ?_|refine ae ?_|exact ah|refine ab fun hb=>?_|exact aX|fail)
theorem Ds (l:List Ho) (p:Pr) (x:Am) (hl:l.length≤1000000):FSpec prog 294 [.one (.sl fV l),p.a,x.a] [] [] (.c (.sl fV (cr l p x))) []:=by
 obtain ⟨R,hR⟩:∃R,cr l p x=R:=⟨_,rfl⟩;rw [hR];unfold cr at hR;refine aP func294 ?_;repeat' (first|refine af ?_ ?_|refine aa 9 rfl (cB [] (fP x) ?_)|refine ae ?_|exact ah|refine ab fun hb=>?_)
 refine bV 7 1000 197 fV rfl rfl rfl ?_;refine ai (fun y:Nat×Bool×List Ho=>y.1≤l.length∧y.2.2.length≤y.1+(bif y.2.1 then 1 else 0)∧y.2.2++(bif y.2.1 then eN (l.drop y.1) p else mn ⟨p,x⟩ (eN (l.drop y.1) p))=R) (fun y=>bt [4,5,1000] [(0,.c (.sl fV l)),(4,.c (.ptr 4 0)),(5,.c (.ptr 5 0)),(7,.c (.own 1000)),(8,.b y.2.1),(9,.i y.1)] [(4,.box 35 [.sc (.int .i64 p.site),.sc (.int .i64 p.inc),.sc (.int .i64 p.num)]),(5,.box 37 [.sc (.int .i64 x.mode),.sc (.int .i64 x.units)]),(1000,.arr 197 fV y.2.2)]) (fun y=>l.length-y.1) (0,aH x,[]) ⟨Nat.zero_le _,Nat.zero_le _,hR⟩ aN ?_;rintro ⟨i,dn,out⟩ ⟨hi,hol,hs⟩;dsimp only at *
 by_cases hlt:i<l.length
 ·rw [List.drop_eq_getElem_cons hlt,lN] at hs;by_cases hp:l[i].proc=p
  ·rw [decide_eq_true hp,cond_true] at hs;repeat' (first|refine af ?_ ?_|refine ae ?_|exact ah|refine ab fun hb=>?_)
   refine ⟨(i+1,dn,out),⟨by dsimp only;omega,by dsimp only;omega,hs⟩,by dsimp only;omega,?_⟩;exact aN
  ·rw [decide_eq_false hp,cond_false,gX] at hs;cases dn with
   | true =>
    simp only [cond_true] at hol;repeat' (first|refine af ?_ ?_|(refine aa 8 rfl ?_;refine aV (ak rfl rfl (aB rfl rfl) (aD [l[i]] rfl rfl rfl rfl) rfl aL aL) rfl rfl rfl ?_)|refine ae ?_|exact ah|refine ab fun hb=>?_)
    refine ⟨(i+1,true,out++[l[i]]),⟨by dsimp only;omega,by simp;omega,by rw [←hs];simp⟩,by dsimp only;omega,?_⟩;exact a8 (qf [(1000,49)])
   | false =>
    simp only [cond_false] at hol;repeat' (first|refine af ?_ ?_|(refine aa 8 rfl ?_;first|(refine aV (ak rfl rfl (aB rfl rfl) (aD [⟨p,x⟩] rfl rfl rfl rfl) rfl aL aL) rfl rfl rfl ?_)|(refine aV (ak rfl rfl (aB rfl rfl) (aD [l[i]] rfl rfl rfl rfl) rfl aL aL) rfl rfl rfl ?_))|refine aa 9 rfl (cB [] (i6 l[i].proc p) ?_)|refine ae ?_|exact ah|refine ab fun hb=>?_)
    ·refine ⟨(i+1,true,out++[⟨p,x⟩]++[l[i]]),⟨by dsimp only;omega,by simp;omega,by rw [←hs];simp [*]⟩,by dsimp only;omega,?_⟩;exact a8 (qf [(1000,49)])
    ·refine ⟨(i+1,false,out++[l[i]]),⟨by dsimp only;omega,by simp;omega,by rw [←hs];simp [*]⟩,by dsimp only;omega,?_⟩;exact a8 (qf [(1000,49)])
 ·rw [List.drop_eq_nil_of_le (by omega)] at hs;cases dn with
  | true =>
   simp only [cond_true] at hol;obtain rfl:out=R:=by rw [←hs];simp [eN]
   repeat' (first|refine af ?_ ?_|refine ae ?_|exact ah|refine ab fun hb=>?_|exact aX|fail)
  | false =>
   simp only [cond_false] at hol;obtain rfl:out++[⟨p,x⟩]=R:=by rw [←hs];simp [eN,mn]
   repeat' (first|refine af ?_ ?_|(refine aa 8 rfl ?_;refine aV (ak rfl rfl (aB rfl rfl) (aD [⟨p,x⟩] rfl rfl rfl rfl) rfl aL aL) rfl rfl rfl ?_)|refine ae ?_|exact ah|refine ab fun hb=>?_|exact aX|fail)
theorem JP (r:Rs) (l:List Ho) (p:Pr) (x:Am):FSpec prog 273 [r.a,.one (.sl fV l),p.a,x.a] [] [] (.b (fW r l p x)) []:=by
 obtain ⟨v,hv⟩:∃v,fW r l p x=v:=⟨_,rfl⟩;rw [hv];unfold fW th at hv;refine aP func273 ?_;cases hh:te r l with
 | false =>
  rw [hh] at hv;obtain rfl:false=v:=hv;repeat' (first|refine af ?_ ?_|refine aa 9 rfl (cB [] (lX r l) ?_)|refine ae ?_|exact ah|(refine ab fun hb=>?_;first|(simp [hh] at hb;done)|skip)|exact aX|fail)
 | true =>
  have h8:l.length≤8:=by have:=hh;simp [te] at this;omega
  repeat' (first|refine af ?_ ?_|(refine aa 9 rfl ?_;first|(refine cB [] (lX r l) ?_)|(refine cB [] (ga p) ?_)|(refine cB [] (im r x) ?_)|(refine cC [] (Ds l p x (by omega)) ?_)|(refine cB [] (lX r (cr l p x)) ?_))|refine ae ?_|exact ah|(refine ab fun hb=>?_;first|(simp [hh] at hb;done)|skip))
  all_goals (refine d7 ?_;rw [←hv];simp [*])
def Wt.a (x:Wt):V0:=.ag [.sc (.int .i64 x.proc.site),.sc (.int .i64 x.proc.inc),.sc (.int .i64 x.proc.num),.sc (.int .i64 x.am.mode),.sc (.int .i64 x.am.units),.sc (.int .i64 x.prio),.sc (.int .i64 x.passed)]
theorem io (x:Wt):FSpec prog 317 [x.a] [] [] (.b (pf x)) []:=by
 unfold pf;refine aP func317 ?_;repeat' (first|refine af ?_ ?_|(refine aa 9 rfl ?_;first|(refine cB [] (ga x.proc) ?_)|(refine cB [] (nP x.am) ?_))|refine ae ?_|exact ah|refine ab fun hb=>?_)
 all_goals (refine d7 ?_;simp [*])
theorem mT (l:List Wt) (p:Pr):FSpec prog 209 [.one (.sl eM l),p.a] [] [] (.i (dG l p)) []:=by
 obtain ⟨v,hv⟩:∃v,dG l p=v:=⟨_,rfl⟩;rw [hv];refine aP func209 ?_;refine aM (fun c ρ a w hr=>bz (t:=0) hr rfl) (fun hl0=>?_);repeat' (first|refine af ?_ ?_|refine ae ?_|exact ah|refine ab fun hb=>?_)
 refine ai (fun i=>i≤l.length∧gE p i (l.drop i)=v) (fun i=>bt [3] [(0,.c (.sl eM l)),(3,.c (.ptr 3 0)),(5,.i i)] [(3,.box 35 [.sc (.int .i64 p.site),.sc (.int .i64 p.inc),.sc (.int .i64 p.num)])]) (fun i=>l.length-i) 0 ⟨Nat.zero_le _,hv⟩ aN ?_;rintro i ⟨hi,hs⟩;by_cases hlt:i<l.length
 ·rw [List.drop_eq_getElem_cons hlt,ez] at hs;repeat' (first|refine af ?_ ?_|refine ae ?_|exact ah|refine ab fun hb=>?_)
  ·refine d7 ?_;rw [←hs];simp [*]
  ·refine ⟨i+1,⟨by omega,by rw [←hs];simp [*]⟩,by omega,?_⟩;exact aN
 ·rw [List.drop_eq_nil_of_le (by omega)] at hs;repeat' (first|refine af ?_ ?_|refine ae ?_|exact ah|refine ab fun hb=>?_)
  refine d7 ?_;rw [←hs];rfl
theorem pE (l:List Wt):FSpec prog 271 [.one (.sl eM l)] [] [] (.b (d9 l)) []:=by
  obtain ⟨v,hv⟩:∃v,d9 l=v:=⟨_,rfl⟩;rw [hv];unfold d9 at hv;refine aP func271 ?_;refine aM (fun c ρ a w hr=>bz (t:=0) hr rfl) (fun hl0=>?_);by_cases h8:8<l.length
  · rw [decide_eq_false (by omega)] at hv
    obtain rfl:false=v:=hv;repeat' (first|refine af ?_ ?_|refine ae ?_|exact ah|refine ab fun hb=>?_|exact aX|fail)
  rw [decide_eq_true (by omega),Bool.true_and] at hv;repeat' (first|refine af ?_ ?_|refine ae ?_|exact ah|refine ab fun hb=>?_)
  refine ai (fun i=>i≤l.length∧uy l i (l.drop i)=v) (fun i=>bt [] [(0,.c (.sl eM l)),(3,.i i)] []) (fun i=>l.length-i) 0 ⟨Nat.zero_le _,hv⟩ aN ?_;rintro i ⟨hi,hs⟩;by_cases hlt:i<l.length
  · rw [List.drop_eq_getElem_cons hlt,lM] at hs
    repeat' (first|refine af ?_ ?_|(refine aa 9 rfl ?_;first|(refine cB [] (io l[i]) ?_)|(refine cB [] (mT l l[i].proc) ?_))|refine ae ?_|exact ah|refine ab fun hb=>?_)
    all_goals first
      | (obtain rfl:false=v:=by rw [←hs];simp [*]
         refine bP (qf []) ?_;exact aj)
      | (refine ⟨i+1,⟨by omega,by rw [←hs];simp [*]⟩,by omega,?_⟩
         exact aN)
  · rw [List.drop_eq_nil_of_le (by omega)] at hs
    obtain rfl:true=v:=hs;repeat' (first|refine af ?_ ?_|refine ae ?_|exact ah|refine ab fun hb=>?_|exact aX|fail)
theorem nQ (l:List Wt) (p:Pr) (hl:l.length≤100000):FSpec prog 295 [.one (.sl eM l),p.a] [] [] (.tup [.one (.sl eM (bI l p)),.one (.sc (.bool (decide ((bI l p).length<l.length))))]) []:=by
 rw [show decide ((bI l p).length<l.length)=decide (((bI l p).length:Int)<(l.length:Int)) by simp];obtain ⟨R,hR⟩:∃R,bI l p=R:=⟨_,rfl⟩;rw [hR];refine aP func295 ?_;repeat' (first|refine af ?_ ?_|refine ae ?_|exact ah|refine ab fun hb=>?_)
 refine bV 6 1000 171 eM rfl rfl rfl ?_;refine ai (fun x:Nat×List Wt=>x.1≤l.length∧x.2.length≤x.1∧x.2++bI (l.drop x.1) p=R) (fun x=>bt [3,1000] [(0,.c (.sl eM l)),(3,.c (.ptr 3 0)),(6,.c (.own 1000)),(7,.i x.1)] [(3,.box 35 [.sc (.int .i64 p.site),.sc (.int .i64 p.inc),.sc (.int .i64 p.num)]),(1000,.arr 171 eM x.2)]) (fun x=>l.length-x.1) (0,[]) ⟨Nat.zero_le _,Nat.le_refl _,hR⟩ aN ?_;rintro ⟨i,out⟩ ⟨hi,ho,hs⟩;dsimp only at *
 by_cases hlt:i<l.length
 ·rw [List.drop_eq_getElem_cons hlt,bI,List.filter_cons] at hs;repeat' (first|refine af ?_ ?_|(refine aa 8 rfl ?_;refine aV (ak rfl rfl (aB rfl rfl) (aD [l[i]] rfl rfl rfl rfl) rfl aL aL) rfl rfl rfl ?_)|refine ae ?_|exact ah|refine ab fun hb=>?_)
  ·refine ⟨(i+1,out++[l[i]]),⟨by dsimp only;omega,by simp;omega,by rw [←hs];simp [bI, *]⟩,by dsimp only;omega,?_⟩;exact a8 (qf [(1000,27)])
  ·refine ⟨(i+1,out),⟨by dsimp only;omega,by dsimp only;omega,by rw [←hs];simp [bI, *]⟩,by dsimp only;omega,?_⟩;exact aN
 ·rw [List.drop_eq_nil_of_le (by omega)] at hs;obtain rfl:out=R:=by rw [←hs];simp [bI]
  repeat' (first|refine af ?_ ?_|refine ae ?_|exact ah|refine ab fun hb=>?_|(refine fe (qf []) ?_;exact aj))
theorem vd {all:List Wt}:∀{l:List Wt} {k:Nat},uy all k l=true→∀x∈l,pf x=true
 | [],_,_,_,hx=>absurd hx (by simp)
 | y :: l,k,h,x,hx=>by
  rw [lM] at h;simp only [Bool.and_eq_true] at h;rcases List.mem_cons.1 hx with rfl|hx
  ·exact h.1.1
  ·exact vd h.2 x hx
theorem Dt (l:List Wt) (x:Wt):FSpec prog 292 [.one (.sl eM l),x.a] [] [] (.tup [.one (.sl eM (iP l x).2),.one .any,.one (.sc (.int .i64 (iP l x).1))]) []:=by
 obtain ⟨⟨E,R⟩,hR⟩:∃R,iP l x=R:=⟨_,rfl⟩;rw [hR];unfold iP at hR;dsimp only;refine aP func292 ?_;cases h1:d9 l with
 | false =>
  rw [h1] at hR;injection hR with e1 e2;subst e1;subst e2;repeat' (first|refine af ?_ ?_|refine aa 9 rfl (cB [] (pE l) ?_)|refine ae ?_|exact ah|(refine ab fun hb=>?_;first|(simp [h1] at hb;done)|skip)|(refine cX (qf []) ?_;exact aj))
 | true =>
  rw [h1] at hR;cases h2:pf x && decide (x.passed=0) with
  | false =>
   rw [h2] at hR;injection hR with e1 e2;subst e1;subst e2;repeat' (first|refine af ?_ ?_|(refine aa 9 rfl ?_;first|(refine cB [] (pE l) ?_)|(refine cB [] (io x) ?_))|refine ae ?_|exact ah|(refine ab fun hb=>?_;first|(simp [h1] at hb;done)|skip)|(refine cX (qf []) ?_;exact aj))
   all_goals (exfalso;revert h2;simp [*])
  | true =>
   rw [h2] at hR;obtain ⟨h2,h3⟩:pf x=true∧x.passed=0:=by simpa using h2
   by_cases h4:0≤dG l x.proc
   ·rw [decide_eq_true h4] at hR;injection hR with e1 e2;subst e1;subst e2;repeat' (first|refine af ?_ ?_|(refine aa 9 rfl ?_;first|(refine cB [] (pE l) ?_)|(refine cB [] (io x) ?_)|(refine cB [] (mT l x.proc) ?_))|refine ae ?_|exact ah|(refine ab fun hb=>?_;first|(simp [h1] at hb;done)|(simp [h2] at hb;done)|skip)|(refine cX (qf []) ?_;exact aj))
   rw [decide_eq_false h4] at hR;have h8:l.length≤8:=by have:=h1;simp [d9] at this;exact this.1
   by_cases h5:l.length=8
   ·rw [decide_eq_true h5] at hR;injection hR with e1 e2;subst e1;subst e2;repeat' (first|refine af ?_ ?_|(refine aa 9 rfl ?_;first|(refine cB [] (pE l) ?_)|(refine cB [] (io x) ?_)|(refine cB [] (mT l x.proc) ?_))|refine ae ?_|exact ah|(refine ab fun hb=>?_;first|(simp [h1] at hb;done)|(simp [h2] at hb;done)|skip)|(refine cX (qf []) ?_;exact aj))
   rw [decide_eq_false h5] at hR;obtain ⟨rfl,hW⟩:0=E∧iz l x=R:=by injection hR with e1 e2;exact ⟨e1,e2⟩
   clear hR;have hpas:∀i (h:i<l.length),0≤l[i].passed∧l[i].passed≤3:=fun i h=>by
    have h6:=h1;simp only [d9,Bool.and_eq_true] at h6;have h7:=vd h6.2 _ (List.getElem_mem h);simp [pf] at h7;omega
   obtain ⟨K,hK⟩:∃K,iO x l l.length=K:=⟨_,rfl⟩;unfold iz at hW;rw [hK] at hW;repeat' (first|refine af ?_ ?_|(refine aa 9 rfl ?_;first|(refine cB [] (pE l) ?_)|(refine cB [] (io x) ?_)|(refine cB [] (mT l x.proc) ?_))|refine ae ?_|exact ah|(refine ab fun hb=>?_;first|(simp [h1] at hb;done)|(simp [h2] at hb;done)|skip))
   refine ai (fun k=>k≤l.length∧iO x l k=K) (fun k=>bt [3] [(0,.c (.sl eM l)),(3,.c (.ptr 3 0)),(7,.i k)] [(3,.box 171 [.sc (.int .i64 x.proc.site),.sc (.int .i64 x.proc.inc),.sc (.int .i64 x.proc.num),.sc (.int .i64 x.am.mode),.sc (.int .i64 x.am.units),.sc (.int .i64 x.prio),.sc (.int .i64 x.passed)])]) (fun k=>k) l.length ⟨Nat.le_refl _,hK⟩ aN ?_;rintro k ⟨hk,hs⟩;have hcase:(k=0∧k=K)∨∃m,0<k∧l[((k:Int)-1).toNat]? = some m∧(m.prio<x.prio∧m.passed<3∧iO x l (k-1)=K∨¬(m.prio<x.prio∧m.passed<3)∧k=K):=by
    cases k with
    | zero=>exact .inl ⟨rfl,hs⟩
    | succ j =>
     refine .inr ⟨l[j],by omega,by rw [show (((j+1:Nat):Int)-1).toNat=j by omega,List.getElem?_eq_getElem (by omega)],?_⟩;rw [iO,List.getElem?_eq_getElem (by omega)] at hs;dsimp only at hs;by_cases h6:l[j].prio<x.prio∧l[j].passed<3
     ·rw [decide_eq_true h6.1,decide_eq_true h6.2] at hs;exact .inl ⟨h6.1,h6.2,hs⟩
     ·rw [←Bool.decide_and,decide_eq_false h6] at hs;exact .inr ⟨h6,hs⟩
   rcases hcase with ⟨h0,rfl⟩|⟨m,h0,hgm,⟨h6,h7,h9⟩|⟨h6,rfl⟩⟩
   case inr.inl =>
    repeat' (first|refine af ?_ ?_|refine ae ?_|exact ah|refine ab fun hb=>?_)
    refine ⟨k-1,⟨by omega,h9⟩,by omega,?_⟩;exact aN
   all_goals
    have hlk:(l.take k).length=k:=by simp;omega
    repeat' (first|refine af ?_ ?_|(refine aa 8 rfl ?_;refine aV (ak rfl rfl (aB rfl rfl) (aD [x] rfl rfl rfl rfl) rfl aL aL) rfl rfl rfl ?_)|refine ae ?_|exact ah|(refine ab fun hb=>?_;first|(simp at hb;done)|skip))
   all_goals
    refine ai (fun y:Nat×List Wt=>y.1≤l.length∧y.2.length≤y.1+1∧y.2++(l.drop y.1).map gt=R) (fun y=>bt [1000] [(0,.c (.sl eM l)),(7,.i k),(8,.c (.own 1000)),(9,.i y.1)] [(1000,.arr 171 eM y.2)]) (fun y=>l.length-y.1) (k,l.take k++[x]) ⟨hk,by simp;omega,by rw [←hW];simp⟩ (by exact a8 (qf [(1000,63)])) ?_;rintro ⟨i,out⟩ ⟨hi,ho,hs⟩;dsimp only at *
    by_cases hlt:i<l.length
    ·have hp:=hpas i hlt;rw [List.drop_eq_getElem_cons hlt,List.map_cons] at hs;repeat' (first|refine af ?_ ?_|(refine aa 8 rfl ?_;refine aV (ak rfl rfl (aB rfl rfl) (aD [gt l[i]] rfl rfl rfl rfl) rfl aL aL) rfl rfl rfl ?_)|refine ae ?_|exact ah|refine ab fun hb=>?_)
     refine ⟨(i+1,out++[gt l[i]]),⟨by dsimp only;omega,by simp;omega,by rw [←hs];simp⟩,by dsimp only;omega,?_⟩;exact a8 (qf [(1000,82)])
    ·rw [List.drop_eq_nil_of_le (by omega)] at hs;obtain rfl:out=R:=by rw [←hs];simp
     repeat' (first|refine af ?_ ?_|refine ae ?_|exact ah|refine ab fun hb=>?_|(refine cX (qf []) ?_;exact aj))
theorem xc (r:Rs):FSpec prog 98 [r.a] [] [] (.b (mm r)) [] :=
 cz (fun b W=>by kernel_rfl) rfl fun w S ρ vs _ h=>by
  match vs,h with
  | [_],⟨h1,_⟩=>rw [Rs.open h1];exact (sC _ w).mono fun _ _=>gT
theorem mU (q:Qu) (h1:q.holds.length≤100000) (h2:q.convs.length≤100000) (h3:q.waits.length≤100000):FSpec prog 290 [q.a] [] [] (.v q.a) []:=by
 refine aP func290 ?_;repeat' (first|refine af ?_ ?_|refine ae ?_|exact ah|refine ab fun hb=>?_)
 refine bP (qf []) ?_;exact aj
def mA (q:Qu):Wt:=(dm q).getD ⟨⟨0,0,0⟩,⟨0,0⟩,0,0⟩
theorem Du (q:Qu):FSpec prog 272 [q.a] [] [] (.tup [(mA q).a,.one (.sc (.bool (dm q).isSome))]) []:=by
 obtain ⟨r,hs,cs,ws,gn⟩:=q;refine aP func272 ?_;refine aM (fun c ρ a w hr=>dj (t:=0) (i:=5) hr rfl rfl) (fun hl0_5=>?_);refine aM (fun c ρ a w hr=>dj (t:=0) (i:=6) hr rfl rfl) (fun hl0_6=>?_);cases cs with
 | cons x cs =>
  have e0:(x :: cs)[(0:Int).toNat]? = some x:=rfl;have e1:(x :: cs)[0]? = some x:=rfl;repeat' (first|refine af ?_ ?_|refine ae ?_|exact ah|(refine ab fun hb=>?_;first|(simp at hb;done)|skip)|(refine fe (qf []) ?_;exact aj))
 | nil =>
  cases ws with
  | cons x ws =>
   have e0:(x :: ws)[(0:Int).toNat]? = some x:=rfl;have e1:(x :: ws)[0]? = some x:=rfl;repeat' (first|refine af ?_ ?_|refine ae ?_|exact ah|(refine ab fun hb=>?_;first|(simp at hb;done)|skip)|(refine fe (qf []) ?_;exact aj))
  | nil =>
   repeat' (first|refine af ?_ ?_|refine ae ?_|exact ah|(refine ab fun hb=>?_;first|(simp at hb;done)|skip)|(refine fe (qf []) ?_;exact aj))
theorem Dv (q:Qu):iL q=(mm q.res && te q.res q.holds && decide (q.convs.length≤8) && d9 q.waits && (decide (q.holds.length+q.waits.length≤8) && decide (0≤q.gen) && decide (q.gen≤1073741824)) && (uz q 0 q.convs && sG q q.waits)):=by
 unfold iL Jl Jm;rw [Bool.eq_iff_iff];simp only [Bool.and_eq_true];constructor <;> (intro h;simp only [h,and_self])
theorem ve (q:Qu):FSpec prog 201 [q.a] [] [] (.b (iL q)) []:=by
  obtain ⟨v,hv⟩:∃v,iL q=v:=⟨_,rfl⟩;rw [hv];rw [Dv] at hv;refine aP func201 ?_;refine aM (fun c ρ a w hr=>dj (t:=0) (i:=4) hr rfl rfl) (fun hl0_4=>?_);refine aM (fun c ρ a w hr=>dj (t:=0) (i:=5) hr rfl rfl) (fun hl0_5=>?_);refine aM (fun c ρ a w hr=>dj (t:=0) (i:=6) hr rfl rfl) (fun hl0_6=>?_);cases hP:mm q.res && te q.res q.holds && decide (q.convs.length≤8) && d9 q.waits with
  | false =>
    rw [hP] at hv;obtain rfl:false=v:=hv;repeat' (first|refine af ?_ ?_|(refine aa 9 rfl ?_;first|(refine cB [] (xc q.res) ?_)|(refine cB [] (lX q.res q.holds) ?_)|(refine cB [] (pE q.waits) ?_))|refine ae ?_|exact ah|refine ab fun hb=>?_|exact aX|fail)
    all_goals (exfalso;revert hP;simp [*];try omega)
  | true =>
    rw [hP,Bool.true_and] at hv;simp only [Bool.and_eq_true,decide_eq_true_eq] at hP;obtain ⟨⟨⟨p1,p2⟩,p3⟩,p4⟩:=hP;have h8:q.holds.length≤8:=by have:=p2;simp [te] at this;omega
    have w8:q.waits.length≤8:=by have:=p4;simp [d9] at this;omega
    by_cases hG:q.holds.length+q.waits.length≤8∧0≤q.gen∧q.gen≤1073741824
    case neg =>
      obtain rfl:false=v:=by
        rw [←hv]
        symm
        rw [Bool.and_eq_false_iff]
        left
        rw [Bool.eq_false_iff];intro h;simp only [Bool.and_eq_true,decide_eq_true_eq] at h;exact hG ⟨h.1.1,h.1.2,h.2⟩
      repeat' (first|refine af ?_ ?_|(refine aa 9 rfl ?_;first|(refine cB [] (xc q.res) ?_)|(refine cB [] (lX q.res q.holds) ?_)|(refine cB [] (pE q.waits) ?_))|refine ae ?_|exact ah|(refine ab fun hb=>?_;first|(simp [p1] at hb;done)|(simp [p2] at hb;done)|(simp [p4] at hb;done)|skip)|exact aX|fail)
      all_goals (exfalso;omega)
    obtain ⟨g1,g2,g3⟩:=hG;rw [decide_eq_true g1,decide_eq_true g2,decide_eq_true g3] at hv;simp only [Bool.true_and] at hv;repeat' (first|refine af ?_ ?_|(refine aa 9 rfl ?_;first|(refine cB [] (xc q.res) ?_)|(refine cB [] (lX q.res q.holds) ?_)|(refine cB [] (pE q.waits) ?_))|refine ae ?_|exact ah|(refine ab fun hb=>?_;first|(simp [p1] at hb;done)|(simp [p2] at hb;done)|(simp [p4] at hb;done)|skip))
    refine ai (fun i=>i≤q.convs.length∧(uz q i (q.convs.drop i) && sG q q.waits)=v) (fun i=>bt [1,3] [(1,.c (.ptr 1 0)),(3,.c (.ptr 3 0)),(4,.i i)] [(1,.box 81 q.d),(3,.box 55 [.sc (.string q.res.name),.sc (.int .i64 q.res.kind),.sc (.int .i64 q.res.units),.sc (.int .i64 q.res.home)])]) (fun i=>q.convs.length-i) 0 ⟨Nat.zero_le _,hv⟩ aN ?_;rintro i ⟨hi,hs⟩;by_cases hlt:i<q.convs.length
    · rw [List.drop_eq_getElem_cons hlt,oh] at hs
      obtain ⟨x,hx⟩:∃x,q.convs[i]=x:=⟨_,rfl⟩;have hgx:q.convs[i]? = some x:=by rw [List.getElem?_eq_getElem hlt,hx]
      rw [hx] at hs;obtain ⟨h,hh⟩:∃h,ao q.holds x.proc=h:=⟨_,rfl⟩;have kG:=Iw q.holds x.proc;unfold AO at hs;rw [hh] at hs kG;clear hv hx hh;repeat' (first|refine af ?_ ?_|(refine aa 9 rfl ?_;first|(refine cB [] (kG) ?_)|(refine cB [] (fP h) ?_)|(refine cB [] (im q.res x.am) ?_)|(refine cB [] (dK q.res x.am h) ?_)|(refine cB [] (mT q.convs x.proc) ?_))|refine ae ?_|exact ah|refine ab fun hb=>?_)
      all_goals first
        | (obtain rfl:false=v:=by rw [←hs];simp [*]
           refine bP (qf []) ?_;exact aj)
        | (refine ⟨i+1,⟨by omega,by rw [←hs];simp [*]⟩,by omega,?_⟩
           exact aN)
    · rw [List.drop_eq_nil_of_le (by omega)] at hs
      repeat' (first|refine af ?_ ?_|refine ae ?_|exact ah|refine ab fun hb=>?_)
      refine ai (fun i=>i≤q.waits.length∧sG q (q.waits.drop i)=v) (fun i=>bt [1,3] [(1,.c (.ptr 1 0)),(3,.c (.ptr 3 0)),(7,.i i)] [(1,.box 81 q.d),(3,.box 55 [.sc (.string q.res.name),.sc (.int .i64 q.res.kind),.sc (.int .i64 q.res.units),.sc (.int .i64 q.res.home)])]) (fun i=>q.waits.length-i) 0 ⟨Nat.zero_le _,hs⟩ aN ?_;rintro i ⟨hi,hs⟩;by_cases hlt:i<q.waits.length
      · rw [List.drop_eq_getElem_cons hlt,ol] at hs
        repeat' (first|refine af ?_ ?_|(refine aa 9 rfl ?_;first|(refine cB [] (im q.res q.waits[i].am) ?_)|(refine cB [] (Iw q.holds q.waits[i].proc) ?_)|(refine cB [] (fP (ao q.holds q.waits[i].proc)) ?_))|refine ae ?_|exact ah|refine ab fun hb=>?_)
        all_goals first
          | (obtain rfl:false=v:=by rw [←hs];simp [*]
             refine bP (qf []) ?_;exact aj)
          | (refine ⟨i+1,⟨by omega,by rw [←hs];simp [*]⟩,by omega,?_⟩
             exact aN)
      · rw [List.drop_eq_nil_of_le (by omega)] at hs
        obtain rfl:true=v:=hs;repeat' (first|refine af ?_ ?_|refine ae ?_|exact ah|refine ab fun hb=>?_|exact aX|fail)
theorem nR (q:Qu):FSpec prog 202 [q.a] [] [] (.b (aw q)) []:=by
 obtain ⟨v,hv⟩:∃v,aw q=v:=⟨_,rfl⟩;rw [hv];unfold aw at hv;have kH:=Du q;obtain ⟨x,hx⟩:∃x,mA q=x:=⟨_,rfl⟩;rw [hx] at kH;unfold mA at hx;refine aP func202 ?_;cases hq:dm q with
 | none =>
  rw [hq] at hv kH;repeat' (first|refine af ?_ ?_|(refine aa 9 rfl ?_;first|(refine cB [] (ve q) ?_)|(refine cB [] (kH) ?_))|refine ae ?_|exact ah|refine ab fun hb=>?_)
  all_goals (refine d7 ?_;rw [←hv];simp [*])
 | some y =>
  rw [hq] at hv kH hx;obtain rfl:y=x:=hx;repeat' (first|refine af ?_ ?_|(refine aa 9 rfl ?_;first|(refine cB [] (ve q) ?_)|(refine cB [] (kH) ?_)|(refine cB [] (JP q.res q.holds y.proc y.am) ?_))|refine ae ?_|exact ah|refine ab fun hb=>?_)
  all_goals (refine d7 ?_;rw [←hv];simp [*])
theorem cD (q:Qu):FSpec prog 129 [q.a] [] [] (.b (aw q)) []:=by
 have h:iL q=false→aw q=false:=fun h=>by unfold aw;rw [h];rfl
 refine aP func129 ?_;repeat' (first|refine af ?_ ?_|(refine aa 9 rfl ?_;first|(refine cB [] (ve q) ?_)|(refine cB [] (nR q) ?_))|refine ae ?_|exact ah|refine ab fun hb=>?_)
 all_goals (refine d7 ?_;first|rfl|(rw [h (by assumption)]))
def yJ (o:Option Am):Am:=o.getD ⟨0,0⟩
theorem gz (p:Pr):∀(l:List Wt) (k:Nat),(gE p k l = -1∧gF l p=none)∨∃i,∃h:i<l.length,gE p k l=((k+i:Nat):Int)∧gF l p=some l[i].am
 | [],_=>.inl ⟨rfl,rfl⟩
 | x :: l,k=>by
  rw [ez,cM];cases decide (x.proc=p) with
  | true=>exact .inr ⟨0,by simp,rfl,rfl⟩
  | false =>
   rcases gz p l (k+1) with ⟨h1,h2⟩|⟨i,h,h1,h2⟩
   ·exact .inl ⟨h1,h2⟩
   ·exact .inr ⟨i+1,by simpa using h,by rw [cond_false,h1];congr 1;omega,by simpa using h2⟩
theorem FX (q:Qu) (p:Pr):FSpec prog 142 [q.a,p.a] [] [] (.tup [(yJ (ap q p)).a,.one (.sc (.bool (ap q p).isSome))]) []:=by
 obtain ⟨v,hv⟩:∃v,ap q p=v:=⟨_,rfl⟩;rw [hv];unfold ap at hv;rw [eE] at hv;have k1:=mT q.convs p;have k2:=mT q.waits p;unfold dG at k1 k2;refine aP func142 ?_;rcases gz p q.convs 0 with ⟨h1,h2⟩|⟨i,h,h1,h2⟩
 ·rw [h2] at hv;rw [h1] at k1;rcases gz p q.waits 0 with ⟨h3,h4⟩|⟨i,h,h3,h4⟩
  ·rw [h4] at hv;obtain rfl:none=v:=hv;rw [h3] at k2;repeat' (first|refine af ?_ ?_|(refine aa 9 rfl ?_;first|(refine cB [] (k1) ?_)|(refine cB [] (k2) ?_))|refine ae ?_|exact ah|refine ab fun hb=>?_|(refine fe (qf []) ?_;exact aj))
  ·rw [h4] at hv;obtain rfl:some q.waits[i].am=v:=hv;rw [h3,Nat.zero_add] at k2;repeat' (first|refine af ?_ ?_|(refine aa 9 rfl ?_;first|(refine cB [] (k1) ?_)|(refine cB [] (k2) ?_))|refine ae ?_|exact ah|refine ab fun hb=>?_|(refine fe (qf []) ?_;exact aj))
 ·rw [h2] at hv;obtain rfl:some q.convs[i].am=v:=hv;rw [h1,Nat.zero_add] at k1;repeat' (first|refine af ?_ ?_|refine aa 9 rfl (cB [] (k1) ?_)|refine ae ?_|exact ah|refine ab fun hb=>?_|(refine fe (qf []) ?_;exact aj))
instance:ST prog fK 75 35 24:=⟨ElTB.mk' underlying75 (.agg #[.int .i64 0,.int .i64 0,.int .i64 0]) 3 24 (by kernel_rfl) rfl rfl⟩
abbrev jH (k:Nat) (p:Pr):Nat×Box:=(k,.box 35 [.sc (.int .i64 p.site),.sc (.int .i64 p.inc),.sc (.int .i64 p.num)])
theorem xd (l:List Pr) (p:Pr):FSpec prog 132 [.one (.sl fK l),p.a] [] [] (.b (decide (p∈l))) []:=by
 refine aP func132 ?_;refine aM (fun c ρ a w hr=>bz (t:=0) hr rfl) (fun hl0=>?_);repeat' (first|refine af ?_ ?_|refine ae ?_|exact ah|refine ab fun hb=>?_)
 refine ai (fun i=>i≤l.length∧(p∈l↔p∈l.drop i)) (fun i=>bt [3] [(0,.c (.sl fK l)),(3,.c (.ptr 3 0)),(5,.i i)] [jH 3 p]) (fun i=>l.length-i) 0 ⟨Nat.zero_le _,Iff.rfl⟩ aN ?_;rintro i ⟨hi,hs⟩;repeat' (first|refine af ?_ ?_|refine ae ?_|exact ah|refine ab fun hb=>?_)
 ·refine d7 ?_;have:p∈l:=by rw [←hb];exact List.getElem_mem _
  simp [this]
 ·refine ⟨i+1,⟨by omega,?_⟩,by omega,?_⟩
  ·rw [hs,List.drop_eq_getElem_cons (i:=i) (by omega),List.mem_cons];exact ⟨fun h=>h.resolve_left fun e=>hb e.symm,.inr⟩
  ·exact aN
 ·refine d7 ?_;have:p ∉ l:=by rw [hs,List.drop_eq_nil_of_le (by omega)];simp
  simp [this]
theorem zO (o:Bool) (l:List Pr) (hl:l.length≤1000000):FSpec prog 61 [.one (.sl fK l)] [] (bif o then [0] else []) (.c (bif o then .own 0 else .sl fK (dM l))) (bif o then [(0,some (.arr 35 fK (dM l)))] else []):=by
 refine gp func61 rfl (fun b W=>by kernel_rfl) (by cases o <;> rfl) (Nat.le_of_ble_eq_true rfl) ?_;repeat' (first|refine af ?_ ?_|refine ae ?_|exact ah|refine ab fun hb=>?_)
 refine bV 3 1000 35 fK rfl rfl rfl ?_;have h0:dM (l.take 0)=[]:=List.eq_nil_of_length_eq_zero (by have:=om (l.take 0);simpa using this);refine ai (fun i=>i≤l.length) (fun i=>bt [1000] [(0,.c (.sl fK l)),(3,.c (.own 1000)),(4,.i i)] [(1000,.arr 35 fK (dM (l.take i)))]) (fun i=>l.length-i) 0 (Nat.zero_le _) (by rw [h0];exact aN) ?_;intro i hi;by_cases hlt:i<l.length
 case neg =>
  rw [List.take_of_length_le (by omega)];repeat' (first|refine af ?_ ?_|refine ae ?_|exact ah|refine ab fun hb=>?_)
  cases o with
  | true=>refine bP (qf [(0,1000)]) ?_;exact aj
  | false=>refine bP (qf []) ?_;exact aj
 obtain ⟨x,hx⟩:∃x,l[i]=x:=⟨_,rfl⟩;have hgx:l[i]? = some x:=by rw [List.getElem?_eq_getElem hlt,hx]
 have hLl:=om (l.take i);have HIN:=fun j hj hd ht=>AQ (x:=x) (j:=j) hlt hx hj hd ht;have HHS:=fun hm=>AS (x:=x) hlt hx hm;obtain ⟨L,hL⟩:∃L,dM (l.take i)=L:=⟨_,rfl⟩;obtain ⟨L',hL'⟩:∃L',dM (l.take (i+1))=L':=⟨_,rfl⟩;rw [hL] at HIN HHS hLl ⊢;simp only [hL,hL'] at HIN HHS;rw [List.length_take] at hLl;clear hL hx;by_cases hm:x∈L
 ·obtain rfl:L=L':=HHS hm;repeat' (first|refine af ?_ ?_|refine aa 9 rfl (cB [1000] (xd L x) ?_)|refine ae ?_|exact ah|(refine ab fun hb=>?_;first|(exact absurd hm hb)|skip))
  refine ⟨i+1,by omega,by omega,?_⟩;rw [hL'];exact aN
 have e1:iy x L L.length=L++[x]:=by simp [iy]
 repeat' (first|refine af ?_ ?_|(refine aa 8 rfl ?_;refine aV (ak rfl rfl (aB rfl rfl) (aD [x] rfl rfl rfl rfl) rfl aL aL) rfl rfl rfl ?_)|refine aa 9 rfl (cB [1000] (xd L x) ?_)|refine ae ?_|exact ah|(refine ab fun hb=>?_;first|(exact absurd hb hm)|skip))
 refine ai (fun j=>j≤L.length∧∀y∈L.drop j,fT x y) (fun j=>bt [1000] [(0,.c (.sl fK l)),(3,.c (.own 1000)),(4,.i i),(5,.i j)] [(1000,.arr 35 fK (iy x L j))]) (fun j=>j) L.length ⟨Nat.le_refl _,by simp⟩ (by rw [e1];exact a8 (qf [(1000,27)])) ?_;rintro j ⟨hj,hall⟩;have hW:=qo x L j;rcases Nat.eq_zero_or_pos j with h0|h0
 ·subst h0;have e:=HIN 0 (Nat.zero_le _) hall (.inl rfl);rw [e];repeat' (first|refine af ?_ ?_|refine ae ?_|exact ah|refine ab fun hb=>?_)
  refine ⟨i+1,by omega,by omega,?_⟩;rw [hL'];exact aN
 obtain ⟨y,hy⟩:∃y,L[j-1]'(by omega)=y:=⟨_,rfl⟩;have hg1:(iy x L j)[((j:Int)-1).toNat]? = some y:=by
  rw [show ((j:Int)-1).toNat=j-1 by omega,List.getElem?_eq_getElem (by omega),vY h0 hj,hy]
 have hg2:(iy x L j)[j]? = some x:=by rw [List.getElem?_eq_getElem (by omega),Fc hj]
 have hset:((iy x L j).set ((j:Int)-1).toNat x).set j y=iy x L (j-1):=by
  rw [show ((j:Int)-1).toNat=j-1 by omega,←hy];exact AT h0 hj
 have hW2:((iy x L j).set ((j:Int)-1).toNat x).length=L.length+1:=by rw [List.length_set,hW]
 by_cases hc:0<bE y x
 ·have hxy:fT x y:=by rcases dd y x with ⟨_,e⟩|⟨_,e⟩|⟨e,_⟩ <;> first|exact e|omega
  clear HIN HHS;repeat' (first|refine af ?_ ?_|refine aa 9 rfl (cB [] (i6 y x) ?_)|refine ae ?_|(refine aa 4 rfl ?_;first|(refine aR (aq (z:=x) rfl rfl rfl rfl (by first|assumption|exact List.getElem?_eq_getElem (by omega)) rfl rfl rfl rfl (Nat.le_of_ble_eq_true rfl) rfl rfl) rfl rfl rfl ?_)|(refine aR (aq (z:=y) rfl rfl rfl rfl (by first|assumption|exact List.getElem?_eq_getElem (by omega)) rfl rfl rfl rfl (Nat.le_of_ble_eq_true rfl) rfl rfl) rfl rfl rfl ?_))|exact ah|refine ab fun hb=>?_)
  refine ⟨j-1,⟨by omega,?_⟩,by omega,?_⟩
  ·rw [List.drop_eq_getElem_cons (i:=j-1) (by omega),hy,show j-1+1=j by omega];intro z hz;rcases List.mem_cons.1 hz with rfl|hz
   ·exact hxy
   ·exact hall z hz
  ·rw [←hset];exact aN
 ·have hyx:fT L[j-1] x:=by
   rw [hy];rcases dd y x with ⟨e,_⟩|⟨e,_⟩|⟨_,e⟩
   ·exact e
   ·exact absurd (by rw [←e,←hy];exact List.getElem_mem _) hm
   ·omega
  have e:=HIN j hj hall (.inr ⟨by omega,hyx⟩);repeat' (first|refine af ?_ ?_|refine aa 9 rfl (cB [] (i6 y x) ?_)|refine ae ?_|exact ah|refine ab fun hb=>?_)
  refine ⟨i+1,by omega,by omega,?_⟩;rw [hL',←e];exact aN
theorem Dw (l:List Pr) (hl:l.length≤1000000):FSpec prog 61 [.one (.sl fK l)] [] [] (.c (.sl fK (dM l))) []:=zO false l hl
theorem Dx (l:List Ho) (hl:l.length≤100000):FSpec prog 130 [.one (.sl fV l)] [] [0] (.c (.own 0)) [(0,some (.arr 35 fK (cQ l)))]:=by
 refine aP func130 ?_;repeat' (first|refine af ?_ ?_|refine ae ?_|exact ah|refine ab fun hb=>?_)
 refine bV 3 1000 35 fK rfl rfl rfl ?_;refine ai (fun i=>i≤l.length) (fun i=>bt [1000] [(0,.c (.sl fV l)),(3,.c (.own 1000)),(4,.i i)] [(1000,.arr 35 fK (cQ (l.take i)))]) (fun i=>l.length-i) 0 (Nat.zero_le _) aN ?_;intro i hi;have hlen:(cQ (l.take i)).length=i:=by simp [cQ];omega
 by_cases hlt:i<l.length
 ·have e:cQ (l.take (i+1))=cQ (l.take i)++[l[i].proc]:=by unfold cQ;rw [List.take_succ_eq_append_getElem hlt,List.map_append];rfl
  repeat' (first|refine af ?_ ?_|(refine aa 8 rfl ?_;refine aV (ak rfl rfl (aB rfl rfl) (aD [l[i].proc] rfl rfl rfl rfl) rfl aL aL) rfl rfl rfl ?_)|refine ae ?_|exact ah|refine ab fun hb=>?_)
  refine ⟨i+1,by omega,by omega,?_⟩;rw [e];exact a8 (qf [(1000,18)])
 ·rw [List.take_of_length_le (by omega)];repeat' (first|refine af ?_ ?_|refine ae ?_|exact ah|refine ab fun hb=>?_|(refine bP (qf [(0,1000)]) ?_;exact aj))
theorem Ix (q:Qu) (h2:q.convs.length≤100000) (h3:q.waits.length≤100000):FSpec prog 131 [q.a] [] [] (.c (.sl fK (mF q))) []:=by
 refine aP func131 ?_;repeat' (first|refine af ?_ ?_|refine ae ?_|exact ah|refine ab fun hb=>?_)
 refine bV 3 1000 35 fK rfl rfl rfl ?_;refine ai (fun i=>i≤q.convs.length) (fun i=>bt [1,1000] [(1,.c (.ptr 1 0)),(3,.c (.own 1000)),(4,.i i)] [(1,.box 81 q.d),(1000,.arr 35 fK (bW (q.convs.take i)))]) (fun i=>q.convs.length-i) 0 (Nat.zero_le _) aN ?_;intro i hi;have hlen:(bW (q.convs.take i)).length=i:=by simp [bW];omega
 by_cases hlt:i<q.convs.length
 ·have e:bW (q.convs.take (i+1))=bW (q.convs.take i)++[q.convs[i].proc]:=by unfold bW;rw [List.take_succ_eq_append_getElem hlt,List.map_append];rfl
  repeat' (first|refine af ?_ ?_|(refine aa 8 rfl ?_;refine aV (ak rfl rfl (aB rfl rfl) (aD [q.convs[i].proc] rfl rfl rfl rfl) rfl aL aL) rfl rfl rfl ?_)|refine ae ?_|exact ah|refine ab fun hb=>?_)
  refine ⟨i+1,by omega,by omega,?_⟩;rw [e];exact a8 (qf [(1000,21)])
 ·rw [List.take_of_length_le (by omega)];repeat' (first|refine af ?_ ?_|refine ae ?_|exact ah|refine ab fun hb=>?_)
  refine ai (fun i=>i≤q.waits.length) (fun i=>bt [1,1000] [(1,.c (.ptr 1 0)),(3,.c (.own 1000)),(5,.i i)] [(1,.box 81 q.d),(1000,.arr 35 fK (bW (q.convs++q.waits.take i)))]) (fun i=>q.waits.length-i) 0 (Nat.zero_le _) (by rw [List.take_zero,List.append_nil];exact aN) ?_;intro i hi;have hlen:(bW (q.convs++q.waits.take i)).length=q.convs.length+i:=by simp [bW];omega
  by_cases hlt:i<q.waits.length
  ·have e:bW (q.convs++q.waits.take (i+1))=bW (q.convs++q.waits.take i)++[q.waits[i].proc]:=by unfold bW;rw [List.take_succ_eq_append_getElem hlt,←List.append_assoc,List.map_append];rfl
   repeat' (first|refine af ?_ ?_|(refine aa 8 rfl ?_;refine aV (ak rfl rfl (aB rfl rfl) (aD [q.waits[i].proc] rfl rfl rfl rfl) rfl aL aL) rfl rfl rfl ?_)|refine ae ?_|exact ah|refine ab fun hb=>?_)
   refine ⟨i+1,by omega,by omega,?_⟩;rw [e];exact a8 (qf [(1000,37)])
  ·rw [List.take_of_length_le (by omega)];repeat' (first|refine af ?_ ?_|refine ae ?_|exact ah|refine ab fun hb=>?_|exact aX|fail)
theorem FY (q:Qu) (h8:eU q):FSpec prog 60 [q.a] [] [] (.c (.sl fK (fq q))) []:=by
 obtain ⟨h1,h2,h3⟩:=h8;have hl:(cQ q.holds++mF q).length≤24:=by simp [cQ,mF];omega
 have hl1:(cQ q.holds).length≤8:=by simp [cQ];omega
 have hl2:(mF q).length≤16:=by simp [mF];omega
 refine aP func60 ?_;repeat' (first|refine af ?_ ?_|(refine aa 9 rfl ?_;first|(refine cH (qf [(0,1000)]) (Dx q.holds (by omega)) ?_)|(refine cC [] (Ix q (by omega) (by omega)) ?_)|(refine cC [8] (Dw (cQ q.holds++mF q) (by omega)) ?_))|refine ae ?_|exact ah|refine ab fun hb=>?_|exact aX|fail)
theorem oH (l:List Qu) (n:ByteArray):FSpec prog 65 [.one (.sl dC l),.one (.sc (.string n))] [] [] (.i (bk n 0 l)) []:=by
 obtain ⟨v,hv⟩:∃v,bk n 0 l=v:=⟨_,rfl⟩;rw [hv];refine aP func65 ?_;refine aM (fun c ρ a w hr=>bz (t:=0) hr rfl) (fun hl0=>?_);repeat' (first|refine af ?_ ?_|refine ae ?_|exact ah|refine ab fun hb=>?_)
 refine ai (fun i=>i≤l.length∧bk n i (l.drop i)=v) (fun i=>bt [] [(0,.c (.sl dC l)),(1,.c (.sc (.string n))),(5,.i i)] []) (fun i=>l.length-i) 0 ⟨Nat.zero_le _,hv⟩ aN ?_;rintro i ⟨hi,hs⟩;by_cases hlt:i<l.length
 ·rw [List.drop_eq_getElem_cons hlt,fu] at hs;repeat' (first|refine af ?_ ?_|refine ae ?_|exact ah|refine ab fun hb=>?_)
  ·refine d7 ?_;rw [←hs];simp [*]
  ·refine ⟨i+1,⟨by omega,by rw [←hs,beq_eq_false_iff_ne.2 hb];rfl⟩,by omega,?_⟩;exact aN
 ·rw [List.drop_eq_nil_of_le (by omega)] at hs;repeat' (first|refine af ?_ ?_|refine ae ?_|exact ah|refine ab fun hb=>?_)
  refine d7 ?_;rw [←hs];rfl
theorem Dy (l:List Qu):FSpec prog 59 [.one (.sl dC l)] [] [] (.b (fZ l)) []:=by
  obtain ⟨v,hv⟩:∃v,fZ l=v:=⟨_,rfl⟩;rw [hv];unfold fZ at hv;refine aP func59 ?_;refine aM (fun c ρ a w hr=>bz (t:=0) hr rfl) (fun hl0=>?_);by_cases h8:8<l.length
  · rw [decide_eq_false (by omega)] at hv
    obtain rfl:false=v:=hv;repeat' (first|refine af ?_ ?_|refine ae ?_|exact ah|refine ab fun hb=>?_|exact aX|fail)
  rw [decide_eq_true (by omega),Bool.true_and] at hv;repeat' (first|refine af ?_ ?_|refine ae ?_|exact ah|refine ab fun hb=>?_)
  refine ai (fun i=>i≤l.length∧mo (qt l i) (l.drop i)=v) (fun i=>bt [] [(0,.c (.sl dC l)),(3,.i i)] []) (fun i=>l.length-i) 0 ⟨Nat.zero_le _,hv⟩ aN ?_;rintro i ⟨hi,hs⟩;by_cases hlt:i<l.length
  · rw [List.drop_eq_getElem_cons hlt,ef] at hs
    rcases Nat.eq_zero_or_pos i with h0|h0
    · subst h0
      rw [qu] at hs;repeat' (first|refine af ?_ ?_|refine aa 9 rfl (cB [] (cD l[0]) ?_)|refine ae ?_|exact ah|(refine ab fun hb=>?_;first|(simp at hb;done)|skip))
      all_goals first
        | (obtain rfl:false=v:=by rw [←hs];simp [*]
           refine bP (qf []) ?_;exact aj)
        | (refine ⟨1,⟨by omega,by rw [←hs,jt hlt rfl];simp [*,AU]⟩,by omega,?_⟩
           exact aN)
    · obtain ⟨m,hm⟩:∃m,l[i-1]=m:=⟨_,rfl⟩
      have hgm:l[((i:Int)-1).toNat]? = some m:=by rw [show ((i:Int)-1).toNat=i-1 by omega,List.getElem?_eq_getElem (by omega),hm]
      rw [tl h0 (by omega) hm] at hs;repeat' (first|refine af ?_ ?_|refine aa 9 rfl (cB [] (cD l[i]) ?_)|refine ae ?_|exact ah|refine ab fun hb=>?_)
      all_goals first
        | (obtain rfl:false=v:=by rw [←hs];simp [*,AU]
           refine bP (qf []) ?_;exact aj)
        | (refine ⟨i+1,⟨by omega,by rw [←hs,jt hlt rfl];simp [*,AU]⟩,by omega,?_⟩
           exact aN)
  · rw [List.drop_eq_nil_of_le (by omega)] at hs
    obtain rfl:true=v:=hs;repeat' (first|refine af ?_ ?_|refine ae ?_|exact ah|refine ab fun hb=>?_|exact aX|fail)
theorem ri (q:Qu) (l:List Qu):ku (q :: l)=fq q++ku l:=rfl
theorem Dz (o:Bool) (l:List Qu) (hm:l.length≤12) (h8:∀q∈l,eU q):FSpec prog 29 [.one (.sl dC l)] [] (bif o then [0] else []) (.c (bif o then .own 0 else .sl fK (aC l))) (bif o then [(0,some (.arr 35 fK (aC l)))] else []):=by
 obtain ⟨R,hR⟩:∃R,ku l=R:=⟨_,rfl⟩;have hRl:R.length≤288:=by rw [←hR];have:=qr l h8;omega
 unfold aC;rw [hR];refine gp func29 rfl (fun b W=>by kernel_rfl) (by cases o <;> rfl) (Nat.le_of_ble_eq_true rfl) ?_;repeat' (first|refine af ?_ ?_|refine ae ?_|exact ah|refine ab fun hb=>?_)
 refine bV 3 1000 35 fK rfl rfl rfl ?_;refine ai (fun x:Nat×List Pr=>x.1≤l.length∧x.2++ku (l.drop x.1)=R) (fun x=>bt [1000] [(0,.c (.sl dC l)),(3,.c (.own 1000)),(4,.i x.1)] [(1000,.arr 35 fK x.2)]) (fun x=>l.length-x.1) (0,[]) ⟨Nat.zero_le _,hR⟩ aN ?_;rintro ⟨i,out⟩ ⟨hi,hs⟩;dsimp only at *
 have hol:out.length≤288:=by have:=congrArg List.length hs;simp at this;omega
 by_cases hlt:i<l.length
 ·rw [List.drop_eq_getElem_cons hlt,ri,←List.append_assoc] at hs;have hq:=h8 _ (List.getElem_mem hlt);have hql:=mG hq;have kP:=FY l[i] hq;clear h8;repeat' (first|refine af ?_ ?_|refine aa 9 rfl (cC [] (kP) ?_)|refine ae ?_|exact ah|refine ab fun hb=>?_)
  refine ⟨(i+1,out++fq l[i]),⟨by dsimp only;omega,hs⟩,by dsimp only;omega,?_⟩;exact a8 (qf [(1000,17)])
 ·rw [List.drop_eq_nil_of_le (by omega)] at hs;obtain rfl:out=R:=by rw [←hs];simp [ku]
  repeat' (first|refine af ?_ ?_|((fail_if_success (first|refine my 6 ?_|refine mz 6 ?_));refine ae ?_)|exact ah|refine ab fun hb=>?_)
  refine il 1000 rfl ?_;cases o with
  | true =>
   repeat' (first|refine af ?_ ?_|refine aa 9 rfl (cH (qf [(0,1001)]) (zO true out (by omega)) ?_)|refine ae ?_|exact ah|refine ab fun hb=>?_|(refine bP (qf [(0,1001)]) ?_;exact aj))
  | false =>
   repeat' (first|refine af ?_ ?_|refine aa 9 rfl (cC [] (Dw out (by omega)) ?_)|refine ae ?_|exact ah|refine ab fun hb=>?_|exact aX|fail)
theorem nS (l:List Qu) (hm:l.length≤12) (h8:∀q∈l,eU q):FSpec prog 29 [.one (.sl dC l)] [] [] (.c (.sl fK (aC l))) []:=Dz false l hm h8
theorem jI (l:List En) (n:ByteArray):FSpec prog 134 [.one (.sl iG l),.one (.sc (.string n))] [] [] (.v (ax l n).a) []:=by
 obtain ⟨v,hv⟩:∃v,ax l n=v:=⟨_,rfl⟩;rw [hv];unfold ax at hv;refine aP func134 ?_;refine aM (fun c ρ a w hr=>bz (t:=0) hr rfl) (fun hl0=>?_);repeat' (first|refine af ?_ ?_|refine ae ?_|exact ah|refine ab fun hb=>?_)
 refine ai (fun x:Nat×Am=>x.1≤l.length∧dE n x.2 (l.drop x.1)=v) (fun x=>bt [4,5] [(0,.c (.sl iG l)),(1,.c (.sc (.string n))),(4,.c (.ptr 4 0)),(5,.c (.ptr 5 0)),(6,.i x.1)] [(4,.box 37 [.sc (.int .i64 0),.sc (.int .i64 0)]),(5,.box 37 [.sc (.int .i64 x.2.mode),.sc (.int .i64 x.2.units)])]) (fun x=>l.length-x.1) (0,⟨0,0⟩) ⟨Nat.zero_le _,hv⟩ aN ?_;rintro ⟨i,a⟩ ⟨hi,hs⟩;dsimp only at *
 by_cases hlt:i<l.length
 ·rw [List.drop_eq_getElem_cons hlt,dE] at hs;repeat' (first|refine af ?_ ?_|refine ae ?_|exact ah|refine ab fun hb=>?_)
  ·refine ⟨(i+1,l[i].after),⟨by dsimp only;omega,by rw [←hs];simp [*,ba]⟩,by dsimp only;omega,?_⟩;exact aN
  ·refine ⟨(i+1,a),⟨by dsimp only;omega,by rw [←hs,ba,beq_eq_false_iff_ne.2 hb];rfl⟩,by dsimp only;omega,?_⟩;exact aN
 ·rw [List.drop_eq_nil_of_le (by omega)] at hs;obtain rfl:a=v:=hs;repeat' (first|refine af ?_ ?_|refine ae ?_|exact ah|refine ab fun hb=>?_|exact aX|fail)
theorem DB (x y:Am):FSpec prog 135 [x.a,y.a] [] [] (.b (dg x y)) []:=by
 unfold dg aH;refine aP func135 ?_;repeat' (first|refine af ?_ ?_|(refine aa 9 rfl ?_;first|(refine cB [] (nP y) ?_)|(refine cB [] (nP x) ?_)|(refine cB [] (zN y.mode x.mode) ?_))|refine ae ?_|exact ah|refine ab fun hb=>?_)
 all_goals (refine d7 ?_;first|(simp [*];done)|(simp_all;done))
theorem jJ (l:List Sv) (n:Int):FSpec prog 137 [.one (.sl i5 l),.one (.sc (.int .i64 n))] [] [] (.i (aT n 0 l)) []:=by
 obtain ⟨v,hv⟩:∃v,aT n 0 l=v:=⟨_,rfl⟩;rw [hv];refine aP func137 ?_;refine aM (fun c ρ a w hr=>bz (t:=0) hr rfl) (fun hl0=>?_);repeat' (first|refine af ?_ ?_|refine ae ?_|exact ah|refine ab fun hb=>?_)
 refine ai (fun i=>i≤l.length∧aT n i (l.drop i)=v) (fun i=>bt [] [(0,.c (.sl i5 l)),(1,.i n),(5,.i i)] []) (fun i=>l.length-i) 0 ⟨Nat.zero_le _,hv⟩ aN ?_;rintro i ⟨hi,hs⟩;by_cases hlt:i<l.length
 ·rw [List.drop_eq_getElem_cons hlt,aT] at hs;repeat' (first|refine af ?_ ?_|refine ae ?_|exact ah|refine ab fun hb=>?_)
  ·refine d7 ?_;rw [←hs];simp [*]
  ·refine ⟨i+1,⟨by omega,by rw [←hs];simp [*]⟩,by omega,?_⟩;exact aN
 ·rw [List.drop_eq_nil_of_le (by omega)] at hs;repeat' (first|refine af ?_ ?_|refine ae ?_|exact ah|refine ab fun hb=>?_)
  refine d7 ?_;rw [←hs];rfl
abbrev sO (d:Nat) (k:Int) (a:Tm) (l:List Ex):List D:=[.sc (.int .i64 k),.sc (.string a.name),.sc (.int .i64 a.am.mode),.sc (.int .i64 a.am.units),.sl (nc d) l]
theorem vf (s:ByteArray):FSpec prog 133 [.one (.sc (.string s))] [] [] (.b (cK s.toList)) [] :=
 cz (fun b W=>by kernel_rfl) rfl fun w S ρ vs _ h=>by
  match vs,h with
  | [_],⟨rfl,_⟩=>exact (j8 s w).mono fun e w' h=>⟨_,h.1,by rw [h.2];exact Below.refl _ _,rfl⟩
theorem Iy:∀(x:Ex) (d dp:Nat),dp≤5→FSpec prog 274 [x.a d,iV dp] [] [] (.tup [iV (gm x dp).1,iV (gm x dp).2]) []:=by
  refine Ex.ind (fun k a l ih=>?_);intro d dp hdp;obtain ⟨r,hr⟩:∃r,gm (.mk k a l) dp=r:=⟨_,rfl⟩;rw [hr];rw [we] at hr;show FSpec prog 274 [.ag (sO d k a l),iV dp] [] [] (.tup [iV r.1,iV r.2]) [];refine aP func274 ?_;refine aM (fun c ρ a w hr=>iH (t:=0) (i:=4) hr rfl rfl) (fun hx=>?_);obtain ⟨hlen,hne⟩:=hx;by_cases hc:4<dp∨24<l.length
  · rw [if_pos hc] at hr
    obtain rfl:=hr;repeat' (first|refine af ?_ ?_|refine ae ?_|exact ah|refine ab fun hb=>?_|(refine fe (qf []) ?_;exact aj))
    all_goals (exfalso;omega)
  rw [if_neg hc] at hr;repeat' (first|refine af ?_ ?_|refine ae ?_|exact ah|refine ab fun hb=>?_)
  refine ai (fun x:Nat×Nat×Nat=>x.1≤l.length∧x.2.1≤24∧x.2.2≤5∧jv (l.drop x.1) dp x.2.1 x.2.2=r) (fun x=>bt [2] [(1,.i dp),(2,.c (.ptr 2 0)),(6,.i x.2.1),(7,.i x.2.2),(8,.i x.1)] [(2,.box 42 (sO d k a l))]) (fun x=>l.length-x.1) (0,1,0) ⟨Nat.zero_le _,by decide,by decide,hr⟩ aN ?_;rintro ⟨i,n,m⟩ ⟨hi,hn,hm,hs⟩;dsimp only at *
  by_cases hlt:i<l.length
  case neg =>
    rw [List.drop_eq_nil_of_le (by omega)] at hs;obtain rfl:=hs;repeat' (first|refine af ?_ ?_|refine ae ?_|exact ah|refine ab fun hb=>?_|(refine fe (qf []) ?_;exact aj))
  rw [List.drop_eq_getElem_cons hlt,pj] at hs;obtain ⟨e,rfl⟩:=hne (by omega);obtain ⟨⟨n1,m1⟩,h1⟩:∃p,gm l[i] (dp+1)=p:=⟨_,rfl⟩;have h5:n1≤25∧m1≤5:=by
    rcases qw l[i] (dp+1) with ⟨a1,a2,a3⟩|⟨a1,a3⟩ <;> rw [h1] at a3 <;> injection a3 <;> omega
  have kS:FSpec prog 274 [l[i].a e,iV ((dp:Int)+1)] [] [] (.tup [iV n1,iV m1]) []:=by
    have:=ih l[i] (List.getElem_mem hlt) e (dp+1) (by omega);rw [h1] at this;exact this
  rw [h1] at hs;dsimp only at hs;clear ih h1;repeat' (first|refine af ?_ ?_|refine aa 9 rfl (cB [] (kS) ?_)|refine ae ?_|exact ah|refine ab fun hb=>?_)
  all_goals first
    | (obtain rfl:(25,0)=r:=by rw [←hs,if_pos (by omega)]
       refine fe (qf []) ?_;exact aj)
    | (refine ⟨(i+1,n+n1,max m m1),⟨by dsimp only;omega,by dsimp only;omega,by dsimp only;omega,by rw [←hs,if_neg (by omega),show (if m<m1 then m1 else m)=max m m1 by split <;> omega]⟩,by dsimp only;omega,?_⟩
       dsimp only;exact aN)
theorem zP (x:Ex) (d:Nat) {n:Nat} (hn:(if x9 x=true then x.cnt else 0)=n):FSpec prog 210 [x.a d] [] [] (.i n) []:=by
 obtain ⟨⟨a,b⟩,h⟩:∃p,gm x 1=p:=⟨_,rfl⟩;have h0:=Cw x;have kS:FSpec prog 274 [x.a d,iV 1] [] [] (.tup [iV a,iV b]) []:=by
  have:=Iy x d 1 (by decide);rw [h] at this;exact this
 have h1:x9 x=true→a=x.cnt:=fun e=>by
  rcases qw x 1 with ⟨a1,a2,a3⟩|⟨a1,a3⟩
  ·rw [h] at a3;injection a3
  ·rw [a3] at h0;simp [e] at h0
 rw [h] at h0;refine aP func210 ?_;repeat' (first|refine af ?_ ?_|refine aa 9 rfl (cB [] (kS) ?_)|refine ae ?_|exact ah|refine ab fun hb=>?_)
 ·obtain rfl:0=n:=by rw [←hn,if_neg];rw [←h0];omega
  refine bP (qf []) ?_;exact aj
 ·obtain rfl:a=n:=by
   have h2:x9 x=true:=by
    have h:¬24<a:=by omega
    rw [h0] at h;simpa using h
   rw [←hn,if_pos h2];exact h1 h2
  refine bP (qf []) ?_;exact aj
def LD:Option (List Tm)→TV
 | some _=>.tup [.one (.own 1),.one (.sc (.bool true))]
 | none=>.tup [.one .any,.one (.sc (.bool false))]
def LE (o:Option (List Tm)):List (Nat×Option Box):=[(0,none),(1,o.map (.arr 39 cw))]
theorem JQ:∀(x:Ex) (d:Nat) (acc:List Tm),acc.length+x.cnt≤1000→FSpec prog 211 [.one (.own 0),x.a d] [(0,.arr 39 cw acc)] [1] (LD (uE x acc)) (LE (uE x acc)):=by
 refine Ex.ind (fun k a l ih=>?_);intro d acc hl;rw [Ex.cnt_mk] at hl;obtain ⟨R,hR⟩:∃R,uE (.mk k a l) acc=R:=⟨_,rfl⟩;rw [hR];rw [zx] at hR;show FSpec prog 211 [.one (.own 0),.ag (sO d k a l)] [(0,.arr 39 cw acc)] [1] (LD R) (LE R);cases hE:l.isEmpty with
 | true =>
  obtain rfl:=List.isEmpty_iff.1 hE;rw [hE,cond_true,zw] at hR;cases hk:decide (k=0) && jV a with
  | false =>
   rw [hk] at hR;obtain rfl:none=R:=hR;refine aP func211 ?_;repeat' (first|refine af ?_ ?_|(refine aa 9 rfl ?_;first|(refine cB [] (vf a.name) ?_)|(refine cB [] (nP a.am) ?_))|refine ae ?_|exact ah|refine ab fun hb=>?_|(refine fe (qf []) ?_;exact .tup ⟨.one (.any _),.one (eZ rfl),trivial⟩))
   all_goals (exfalso;revert hk;simp [jV, *])
  | true =>
   rw [hk,cond_true] at hR;obtain ⟨h0,h1,h2⟩:k=0∧cK a.name.toList=true∧bQ a.am=true:=by simpa [jV] using hk
   refine gp func211 rfl (fun b W=>by kernel_rfl) (by cases R <;> rfl) (Nat.le_of_ble_eq_true rfl) ?_;repeat' (first|refine af ?_ ?_|(refine aa 9 rfl ?_;first|(refine cB [] (vf a.name) ?_)|(refine cB [] (nP a.am) ?_))|refine ae ?_|exact ah|(refine ab fun hb=>?_;first|(simp [h1] at hb;done)|(simp [h2] at hb;done)|skip))
   refine ai (fun i=>i≤acc.length∧jY a (acc.drop i)=jY a acc) (fun i=>bt [0,3] [(0,.c (.own 0)),(3,.c (.ptr 3 0)),(6,.i i)] [(3,.box 42 (sO d k a [])),(0,.arr 39 cw acc)]) (fun i=>acc.length-i) 0 ⟨Nat.zero_le _,rfl⟩ aN ?_;rintro i ⟨hi,hs⟩;by_cases hlt:i<acc.length
   ·rw [List.drop_eq_getElem_cons hlt,oo] at hs;repeat' (first|refine af ?_ ?_|refine ae ?_|exact ah|refine ab fun hb=>?_)
    ·obtain rfl:some acc=R:=by rw [←hR,ic,←hs];simp [hb]
     refine fe (qf [(1,0)]) ?_;exact aj
    ·refine ⟨i+1,⟨by omega,?_⟩,by omega,?_⟩
     ·rw [←hs];simp [hb]
     ·exact aN
   ·obtain rfl:some (acc++[a])=R:=by rw [←hR,ic,←hs,List.drop_eq_nil_of_le (by omega)];rfl
    repeat' (first|refine af ?_ ?_|(refine aa 8 rfl ?_;refine aV (ak rfl rfl (aB rfl rfl) (aD [a] rfl rfl rfl rfl) rfl aL aL) rfl rfl rfl ?_)|refine ae ?_|exact ah|refine ab fun hb=>?_|(refine fe (qf [(1,50)]) ?_;exact aj))
 | false =>
  have hl0:0<l.length:=List.length_pos_iff.2 fun e=>by rw [e] at hE;cases hE
  rw [hE,cond_false] at hR;refine gp func211 rfl (fun b W=>by kernel_rfl) (by cases R <;> rfl) (Nat.le_of_ble_eq_true rfl) ?_;refine aM (fun c ρ a w hr=>iH (t:=1) (i:=4) hr rfl rfl) (fun hx=>?_);obtain ⟨hlen,hne⟩:=hx;obtain ⟨e,rfl⟩:=hne hl0;cases hg:oq k a l with
  | false =>
   rw [hg] at hR;obtain rfl:=hR;repeat' (first|refine af ?_ ?_|refine ae ?_|exact ah|refine ab fun hb=>?_|(refine fe (qf []) ?_;exact .tup ⟨.one (.any _),.one (eZ rfl),trivial⟩))
   all_goals (exfalso;revert hg;simp [oq, *];try omega)
  | true =>
   rw [hg,cond_true] at hR;obtain ⟨⟨h1,h2⟩,h3⟩:(1≤k∧k≤(l.length:Int))∧a=iB:=by simpa [oq] using hg
   subst h3;repeat' (first|refine af ?_ ?_|refine ae ?_|exact ah|(refine ab fun hb=>?_;first|(simp at hb;done)|skip))
   refine ai (fun x:Nat×List Tm=>x.1≤l.length∧x.2.length+iM (l.drop x.1)≤1000∧yl (l.drop x.1) x.2=R) (fun x=>bt [0,3,1000] [(0,.c (.own 1000)),(3,.c (.ptr 3 0)),(7,.i x.1)] [(3,.box 42 (sO (e+1) k iB l)),(1000,.arr 39 cw x.2)]) (fun x=>l.length-x.1) (0,acc) ⟨Nat.zero_le _,by simpa using (by omega),hR⟩ (by exact a8 (qf [(1000,0)])) ?_;rintro ⟨i,acc1⟩ ⟨hi,hc,hs⟩;dsimp only at *
   by_cases hlt:i<l.length
   ·rw [List.drop_eq_getElem_cons hlt] at hs hc;rw [tn] at hs;rw [f0] at hc;have kS:=ih l[i] (List.getElem_mem hlt) e acc1 (by omega);have hlen2:=CB l[i] acc1;clear ih;cases h1:uE l[i] acc1 with
    | none =>
     rw [h1] at hs kS;obtain rfl:=hs;repeat' (first|refine af ?_ ?_|refine aa 9 rfl (cH (qf [(0,1000),(1,1001)]) (kS) ?_)|refine ae ?_|exact ah|refine ab fun hb=>?_|(refine fe (qf []) ?_;exact .tup ⟨.one (.any _),.one (eZ rfl),trivial⟩))
    | some r =>
     rw [h1] at hs kS;have hlen3:=hlen2 r h1;repeat' (first|refine af ?_ ?_|refine aa 9 rfl (cH (qf [(0,1000),(1,1001)]) (kS) ?_)|refine ae ?_|exact ah|refine ab fun hb=>?_)
     refine ⟨(i+1,r),⟨by dsimp only;omega,by dsimp only;omega,hs⟩,by dsimp only;omega,?_⟩;exact a8 (qf [(1000,1001)])
   ·rw [List.drop_eq_nil_of_le (by omega)] at hs;obtain rfl:=hs;repeat' (first|refine af ?_ ?_|refine ae ?_|exact ah|refine ab fun hb=>?_|(refine fe (qf [(1,1000)]) ?_;exact aj))
theorem nT (d:Nat) (x:Ex):FSpec prog 144 [x.a d] [] [] (.tup [.one (.sl cw (cy x)),.one (.sc (.bool (kv x)))]) []:=by
 obtain ⟨v,hv⟩:∃v,kv x=v:=⟨_,rfl⟩;obtain ⟨T,hT⟩:∃T,cy x=T:=⟨_,rfl⟩;have hcl:=qz x [];rw [hv,hT];unfold cy at hT;rw [hv] at hT;unfold kv at hv;have hcnt:=x.cnt_pos;cases hk:x9 x with
 | false =>
  obtain rfl:false=v:=by rw [←hv,hk];rfl
  obtain rfl:=hT;have kN:=zP x d (n:=0) (by rw [hk];rfl);refine aP func144 ?_;repeat' (first|refine af ?_ ?_|refine aa 9 rfl (cB [] (kN) ?_)|refine ae ?_|exact ah|refine ab fun hb=>?_|(refine fe (qf []) ?_;exact aj))
 | true =>
  have kN:=zP x d (n:=x.cnt) (by rw [hk];rfl);have h24:x.cnt≤24:=by have h:=hk;simp [x9] at h;exact h.2
  have kA:=(JQ x d [] (by simp;omega)).nil0 (by decide) fun q k=>rfl;rw [hk,Bool.true_and] at hv;rw [zy] at kA;cases hs:wh x with
  | false =>
   obtain rfl:false=v:=by rw [←hv,hs];rfl
   obtain rfl:=hT;rw [hs] at kA;refine aP func144 ?_;repeat' (first|refine af ?_ ?_|(refine aa 9 rfl ?_;first|(refine cB [] (kN) ?_)|(refine cH (qf [(0,1000),(1,1001)]) (kA) ?_))|refine ae ?_|exact ah|refine ab fun hb=>?_|(refine fe (qf []) ?_;exact aj))
  | true =>
   rw [hs,Bool.true_and] at hv;rw [hs,if_pos rfl] at kA;obtain ⟨L,hL⟩:∃L,fU x []=L:=⟨_,rfl⟩;rw [hL] at hv hT kA hcl;simp only [List.length_nil,Nat.zero_add] at hcl;refine aP func144 ?_;by_cases h8:8<L.length
   ·have hno:¬pk L:=fun h=>by have:=h.1;omega
    obtain rfl:false=v:=by rw [←hv,decide_eq_false hno]
    obtain rfl:=hT;repeat' (first|refine af ?_ ?_|(refine aa 9 rfl ?_;first|(refine cB [] (kN) ?_)|(refine cH (qf [(0,1000),(1,1001)]) (kA) ?_))|refine ae ?_|exact ah|refine ab fun hb=>?_|(refine fe (qf []) ?_;exact aj))
   repeat' (first|refine af ?_ ?_|(refine aa 9 rfl ?_;first|(refine cB [] (kN) ?_)|(refine cH (qf [(0,1000),(1,1001)]) (kA) ?_))|refine ae ?_|exact ah|refine ab fun hb=>?_)
   refine ai (fun i=>i≤L.length∧Dist L i 0) (fun i=>bt [1001] [(4,.c (.own 1001)),(6,.i i)] [(1001,.arr 39 cw L)]) (fun i=>L.length-i) 0 ⟨Nat.zero_le _,Dist.start L⟩ aN ?_;rintro i ⟨hi,hd⟩;by_cases hlt:i<L.length
   ·repeat' (first
     | refine af ?_ ?_
     | refine ae ?_
     | exact ah|refine ab fun hb=>?_)
    refine ai (fun j=>j≤i∧Dist L i j) (fun j=>bt [1001] [(4,.c (.own 1001)),(6,.i i),(7,.i j)] [(1001,.arr 39 cw L)]) (fun j=>i-j) 0 ⟨Nat.zero_le _,hd⟩ aN ?_;rintro j ⟨hj,hd⟩;by_cases hji:j<i
    ·repeat' (first
      | refine af ?_ ?_
      | refine ae ?_
      | exact ah|refine ab fun hb=>?_)
     ·have hno:¬pk L:=Dist.not hlt hji (toList_inj hb);obtain rfl:false=v:=by rw [←hv,decide_eq_false hno]
      obtain rfl:=hT;refine fe (qf []) ?_;exact aj
     ·refine ⟨j+1,⟨by omega,hd.step hlt hji fun e=>hb (by rw [e])⟩,by omega,?_⟩;exact aN
    ·repeat' (first
      | refine af ?_ ?_
      | refine ae ?_
      | exact ah|refine ab fun hb=>?_)
     refine ⟨i+1,⟨by omega,hd.row hji⟩,by omega,?_⟩;exact aN
   ·have hok:pk L:=⟨by omega,hd.all hlt⟩;obtain rfl:true=v:=by rw [←hv,decide_eq_true hok]
    obtain rfl:=hT;repeat' (first|refine af ?_ ?_|refine ae ?_|exact ah|refine ab fun hb=>?_|(refine fe (qf []) ?_;exact aj))
theorem Iz (d:Nat) (x:Ex):FSpec prog 143 [x.a d] [] [] (.b (kv x)) []:=by
 refine aP func143 ?_;repeat' (first|refine af ?_ ?_|refine aa 9 rfl (cC [] (nT d x) ?_)|refine ae ?_|exact ah|refine ab fun hb=>?_|exact aX|fail)
theorem FZ (d:Nat) (x:Ex):FSpec prog 75 [x.a d] [] [] (.c (.sl cw (cy x))) []:=by
 refine aP func75 ?_;repeat' (first|refine af ?_ ?_|refine aa 9 rfl (cC [] (nT d x) ?_)|refine ae ?_|exact ah|refine ab fun hb=>?_|exact aX|fail)
theorem zQ:∀{l:List Ex},Cz l=true→∀x∈l,wh x=true
 | [],_,_,hx=>absurd hx (by simp)
 | y :: l,h,x,hx=>by
  rw [np,Bool.and_eq_true] at h;rcases List.mem_cons.1 hx with rfl|hx
  ·exact h.1
  ·exact zQ h.2 x hx
theorem vh (d:Nat) (x:Ex) (L:List Tm) (set:List Bool) (hx2:wh x=true) (hL:L.length≤1000) (hs:set.length≤1000):FSpec prog 146 [x.a d,.one (.sl cw L),.one (.sl cg set)] [] [] (.b (pm (cf L set) x)) []:=by
 revert d x;refine fun d x=>Ex.ind (P:=fun x=>∀d,wh x=true→FSpec prog 146 [x.a d,.one (.sl cw L),.one (.sl cg set)] [] [] (.b (pm (cf L set) x)) []) (fun k a l ih=>?_) x d;intro d hx2;rw [uD,Bool.and_eq_true] at hx2;obtain ⟨hh,hx2⟩:=hx2;unfold wg at hh;obtain ⟨v,hv⟩:∃v,pm (cf L set) (.mk k a l)=v:=⟨_,rfl⟩;rw [hv];rw [CE] at hv;show FSpec prog 146 [.ag (sO d k a l),.one (.sl cw L),.one (.sl cg set)] [] [] (.b v) [];refine aP func146 ?_;cases hE:l.isEmpty with
 | true =>
  obtain rfl:=List.isEmpty_iff.1 hE;rw [hE,cond_true] at hh hv;simp only [Bool.and_eq_true,decide_eq_true_eq] at hh;obtain ⟨rfl,_⟩:=hh;repeat' (first|refine af ?_ ?_|refine ae ?_|exact ah|refine ab fun hb=>?_)
  refine ai (fun i=>i≤L.length∧cf (L.drop i) (set.drop i) a=v) (fun i=>bt [3] [(1,.c (.sl cw L)),(2,.c (.sl cg set)),(3,.c (.ptr 3 0)),(7,.i i)] [(3,.box 42 (sO d 0 a []))]) (fun i=>L.length-i) 0 ⟨Nat.zero_le _,hv⟩ aN ?_;rintro i ⟨hi,hs⟩;by_cases hlt:i<L.length
  ·rw [List.drop_eq_getElem_cons hlt,qB,List.tail_drop] at hs;by_cases hsi:i<set.length
   ·rw [show set.drop i=_ from List.drop_eq_getElem_cons hsi] at hs;repeat' (first|refine af ?_ ?_|refine ae ?_|exact ah|refine ab fun hb=>?_)
    ·refine d7 ?_;rw [←hs];simp [*]
    ·refine ⟨i+1,⟨by omega,?_⟩,by omega,?_⟩
     ·rw [←hs];simp [*]
     ·exact aN
   ·rw [show set.drop i=[] from List.drop_eq_nil_of_le (by omega)] at hs;repeat' (first|refine af ?_ ?_|refine ae ?_|exact ah|refine ab fun hb=>?_)
    ·refine d7 ?_;rw [←hs];simp [*]
    ·refine ⟨i+1,⟨by omega,?_⟩,by omega,?_⟩
     ·rw [←hs];simp [*]
     ·exact aN
  ·rw [List.drop_eq_nil_of_le (by omega)] at hs;repeat' (first|refine af ?_ ?_|refine ae ?_|exact ah|refine ab fun hb=>?_)
   refine d7 ?_;rw [←hs];rfl
 | false =>
  have hl0:0<l.length:=List.length_pos_iff.2 fun e=>by rw [e] at hE;cases hE
  refine aM (fun c ρ a w hr=>iH (t:=0) (i:=4) hr rfl rfl) (fun hx=>?_);obtain ⟨hlen,hne⟩:=hx;obtain ⟨e,rfl⟩:=hne hl0;rw [hE,cond_false] at hh hv;simp only [Bool.and_eq_true,decide_eq_true_eq] at hh;have hk:1≤k:=hh.1.1;clear hh hne;obtain ⟨N,hN⟩:∃N,AY (cf L set) l=N:=⟨_,rfl⟩;rw [hN] at hv;repeat' (first|refine af ?_ ?_|refine ae ?_|exact ah|refine ab fun hb=>?_)
  refine ai (fun x:Nat×Nat=>x.1≤l.length∧x.2≤x.1∧x.2+AY (cf L set) (l.drop x.1)=N) (fun x=>bt [3] [(1,.c (.sl cw L)),(2,.c (.sl cg set)),(3,.c (.ptr 3 0)),(8,.i x.2),(9,.i x.1)] [(3,.box 42 (sO (e+1) k a l))]) (fun x=>l.length-x.1) (0,0) ⟨Nat.zero_le _,Nat.le_refl _,by simpa using hN⟩ aN ?_;rintro ⟨i,n⟩ ⟨hi,hn,hs⟩;dsimp only at *
  by_cases hlt:i<l.length
  ·rw [List.drop_eq_getElem_cons hlt,wj] at hs;have kS:=ih l[i] (List.getElem_mem hlt) e (zQ hx2 _ (List.getElem_mem hlt));obtain ⟨b,hb1⟩:∃b,pm (cf L set) l[i]=b:=⟨_,rfl⟩;rw [hb1] at kS hs;clear ih hb1;repeat' (first|refine af ?_ ?_|refine aa 9 rfl (cB [] (kS) ?_)|refine ae ?_|exact ah|refine ab fun hb=>?_)
   ·refine ⟨(i+1,n+1),⟨by dsimp only;omega,by dsimp only;omega,by rw [hb] at hs;simp at hs;dsimp only;omega⟩,by dsimp only;omega,?_⟩;exact aN
   ·refine ⟨(i+1,n),⟨by dsimp only;omega,by dsimp only;omega,by rw [hb] at hs;simpa using hs⟩,by dsimp only;omega,?_⟩;exact aN
  ·rw [List.drop_eq_nil_of_le (by omega)] at hs;obtain rfl:n=N:=hs;repeat' (first|refine af ?_ ?_|refine ae ?_|exact ah|refine ab fun hb=>?_)
   refine d7 ?_;rw [←hv]
theorem vi (d:Nat) (x:Ex) (set:List Bool) (hs:set.length≤1000):FSpec prog 73 [x.a d,.one (.sl cg set)] [] [] (.b (dD x set)) []:=by
 unfold dD;refine aP func73 ?_;cases hv:kv x with
 | false =>
  repeat' (first|refine af ?_ ?_|refine aa 9 rfl (cC [] (nT d x) ?_)|refine ae ?_|exact ah|(refine ab fun hb=>?_;first|(simp [hv] at hb;done)|skip)|exact aX|fail)
 | true =>
  obtain ⟨hsh,_,h8,_,_⟩:=mI hv;repeat' (first|refine af ?_ ?_|(refine aa 9 rfl ?_;first|(refine cC [] (nT d x) ?_)|(refine cB [] (vh d x (cy x) set hsh (by omega) hs) ?_))|refine ae ?_|exact ah|(refine ab fun hb=>?_;first|(simp [hv] at hb;done)|skip)|exact aX|fail)
def Nd.d (d:Nat) (x:Nd):List D:=[.sc (.int .i64 x.proc.site),.sc (.int .i64 x.proc.inc),.sc (.int .i64 x.proc.num),.sc (.int .i64 x.expr.k),.sc (.string x.expr.atom.name),.sc (.int .i64 x.expr.atom.am.mode),.sc (.int .i64 x.expr.atom.am.units),.sl (nc d) x.expr.kids,.sc (.int .i64 x.gen)]
instance (d:Nat):Dp (LP d) where
 deep:=Nd.d d
 get:=by
  rintro w F ρ x cs ⟨A,c,rfl,h1,h2⟩;exact ⟨rfl,rfl,rfl,rfl,rfl,rfl,rfl,⟨A,c,rfl,h1,h2⟩,rfl,trivial⟩
 put:=by
  intro w F ρ x cs h
  match cs,h with
  | [_,_,_,_,_,_,_,_,_],⟨rfl,rfl,rfl,rfl,rfl,rfl,rfl,⟨A,c,rfl,h1,h2⟩,rfl,_⟩=>exact ⟨A,c,rfl,h1,h2⟩
 nok:=fun _ _=>rfl
theorem Ha (n:Int):FSpec prog 169 [.one (.sc (.int .i64 n))] [] [] (.i (aS n)) []:=by
 obtain ⟨v,hv⟩:∃v,aS n=v:=⟨_,rfl⟩;rw [hv];unfold aS at hv;refine aP func169 ?_;by_cases h:n<0∨1073741824≤n
 ·rw [if_pos h] at hv;obtain rfl:=hv;repeat' (first|refine af ?_ ?_|refine ae ?_|exact ah|refine ab fun hb=>?_|exact aX|fail)
  all_goals (exfalso;omega)
 ·rw [if_neg h] at hv;obtain rfl:=hv;repeat' (first|refine af ?_ ?_|refine ae ?_|exact ah|refine ab fun hb=>?_|exact aX|fail)
end Go.Proofs.YtjndcdcbjidocaaGreatDoor
