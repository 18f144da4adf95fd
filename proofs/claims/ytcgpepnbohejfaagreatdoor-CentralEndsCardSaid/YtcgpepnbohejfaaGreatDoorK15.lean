/- Part 15 of 56 of the proof of both_hold (no condition). -/
import Derived.Test.YtcgpepnbohejfaaGreatDoorK14
set_option linter.unusedVariables false
set_option linter.unusedSimpArgs false
set_option maxRecDepth 100000
set_option maxHeartbeats 64000000
namespace Go.Proofs.YtcgpepnbohejfaaGreatDoor
open Go.RowKit Go.Proofs.Tryz
abbrev xL (d:Nat) (k:Int) (a:Tm) (l:List Ex):List D:=[.sc (.int .i64 k),.sc (.string a.name),.sc (.int .i64 a.am.mode),.sc (.int .i64 a.am.units),.sl (mn d) l]
theorem Cc (s:ByteArray):FSpec prog 93 [.one (.sc (.string s))] [] [] (.b (cE s.toList)) [] :=
 cP (fun b W=>by kernel_rfl) rfl fun w S ρ vs _ h=>by
  match vs,h with
  | [_],⟨rfl,_⟩=>exact (ow s w).mono fun e w' h=>⟨_,h.1,by rw [h.2];exact Below.refl _ _,rfl⟩
theorem Gm:∀(x:Ex) (d dp:Nat),dp≤5→FSpec prog 92 [x.a d,iV dp] [] [] (.tup [iV (fd x dp).1,iV (fd x dp).2]) []:=by
  refine Ex.ind (fun k a l ih=>?_);intro d dp hdp;obtain ⟨r,hr⟩:∃r,fd (.mk k a l) dp=r:=⟨_,rfl⟩;rw [hr];rw [vh] at hr;show FSpec prog 92 [.ag (xL d k a l),iV dp] [] [] (.tup [iV r.1,iV r.2]) [];refine aT func92 ?_;refine bd (fun c ρ a w hr=>iy (t:=0) (i:=4) hr rfl rfl) (fun hx=>?_);obtain ⟨hlen,hne⟩:=hx;by_cases hc:4<dp∨24<l.length
  · rw [if_pos hc] at hr
    obtain rfl:=hr;repeat' (first|refine af ?_ ?_|refine ae ?_|exact ah|refine ab fun hb=>?_|(refine gC (qf []) ?_;exact aw))
    all_goals (exfalso;omega)
  rw [if_neg hc] at hr;repeat' (first|refine af ?_ ?_|refine ae ?_|exact ah|refine ab fun hb=>?_)
  refine ak (fun x:Nat×Nat×Nat=>x.1≤l.length∧x.2.1≤24∧x.2.2≤5∧ij (l.drop x.1) dp x.2.1 x.2.2=r) (fun x=>cq [2] [(1,.i dp),(2,.c (.ptr 2 0)),(6,.i x.2.1),(7,.i x.2.2),(8,.i x.1)] [(2,.box 47 (xL d k a l))]) (fun x=>l.length-x.1) (0,1,0) ⟨Nat.zero_le _,by decide,by decide,hr⟩ a7 ?_;rintro ⟨i,n,m⟩ ⟨hi,hn,hm,hs⟩;dsimp only at *
  by_cases hlt:i<l.length
  case neg =>
    rw [List.drop_eq_nil_of_le (by omega)] at hs;obtain rfl:=hs;repeat' (first|refine af ?_ ?_|refine ae ?_|exact ah|refine ab fun hb=>?_|(refine gC (qf []) ?_;exact aw))
  rw [List.drop_eq_getElem_cons hlt,m8] at hs;obtain ⟨e,rfl⟩:=hne (by omega);obtain ⟨⟨n1,m1⟩,h1⟩:∃p,fd l[i] (dp+1)=p:=⟨_,rfl⟩;have h5:n1≤25∧m1≤5:=by
    rcases oH l[i] (dp+1) with ⟨a1,a2,a3⟩|⟨a1,a3⟩ <;> rw [h1] at a3 <;> injection a3 <;> omega
  have kS:FSpec prog 92 [l[i].a e,iV ((dp:Int)+1)] [] [] (.tup [iV n1,iV m1]) []:=by
    have:=ih l[i] (List.getElem_mem hlt) e (dp+1) (by omega);rw [h1] at this;exact this
  rw [h1] at hs;dsimp only at hs;clear ih h1;repeat' (first|refine af ?_ ?_|refine aa 9 rfl (cB [] (kS) ?_)|refine ae ?_|exact ah|refine ab fun hb=>?_)
  all_goals first
    | (obtain rfl:(25,0)=r:=by rw [←hs,if_pos (by omega)]
       refine gC (qf []) ?_;exact aw)
    | (refine ⟨(i+1,n+n1,max m m1),⟨by dsimp only;omega,by dsimp only;omega,by dsimp only;omega,by rw [←hs,if_neg (by omega),show (if m<m1 then m1 else m)=max m m1 by split <;> omega]⟩,by dsimp only;omega,?_⟩
       dsimp only;exact a7)
theorem yS (x:Ex) (d:Nat) {n:Nat} (hn:(if wW x=true then x.cnt else 0)=n):FSpec prog 54 [x.a d] [] [] (.i n) []:=by
 obtain ⟨⟨a,b⟩,h⟩:∃p,fd x 1=p:=⟨_,rfl⟩;have h0:=Bt x;have kS:FSpec prog 92 [x.a d,iV 1] [] [] (.tup [iV a,iV b]) []:=by
  have:=Gm x d 1 (by decide);rw [h] at this;exact this
 have h1:wW x=true→a=x.cnt:=fun e=>by
  rcases oH x 1 with ⟨a1,a2,a3⟩|⟨a1,a3⟩
  ·rw [h] at a3;injection a3
  ·rw [a3] at h0;simp [e] at h0
 rw [h] at h0;refine aT func54 ?_;repeat' (first|refine af ?_ ?_|refine aa 9 rfl (cB [] (kS) ?_)|refine ae ?_|exact ah|refine ab fun hb=>?_)
 ·obtain rfl:0=n:=by rw [←hn,if_neg];rw [←h0];omega
  refine ct (qf []) ?_;exact aw
 ·obtain rfl:a=n:=by
   have h2:wW x=true:=by
    have h:¬24<a:=by omega
    rw [h0] at h;simpa using h
   rw [←hn,if_pos h2];exact h1 h2
  refine ct (qf []) ?_;exact aw
def JD:Option (List Tm)→TV
 | some _=>.tup [.one (.own 1),.one (.sc (.bool true))]
 | none=>.tup [.one .any,.one (.sc (.bool false))]
def JE (o:Option (List Tm)):List (Nat×Option Box):=[(0,none),(1,o.map (.arr 44 c7))]
theorem H6:∀(x:Ex) (d:Nat) (acc:List Tm),acc.length+x.cnt≤1000→FSpec prog 55 [.one (.own 0),x.a d] [(0,.arr 44 c7 acc)] [1] (JD (tN x acc)) (JE (tN x acc)):=by
 refine Ex.ind (fun k a l ih=>?_);intro d acc hl;rw [Ex.cnt_mk] at hl;obtain ⟨R,hR⟩:∃R,tN (.mk k a l) acc=R:=⟨_,rfl⟩;rw [hR];rw [yv] at hR;show FSpec prog 55 [.one (.own 0),.ag (xL d k a l)] [(0,.arr 44 c7 acc)] [1] (JD R) (JE R);cases hE:l.isEmpty with
 | true =>
  obtain rfl:=List.isEmpty_iff.1 hE;rw [hE,cond_true,yu] at hR;cases hk:decide (k=0) && iH a with
  | false =>
   rw [hk] at hR;obtain rfl:none=R:=hR;refine aT func55 ?_;repeat' (first|refine af ?_ ?_|(refine aa 9 rfl ?_;first|(refine cB [] (Cc a.name) ?_)|(refine cB [] (yO a.am) ?_))|refine ae ?_|exact ah|refine ab fun hb=>?_|(refine gC (qf []) ?_;exact .tup ⟨.one (.any _),.one (dX rfl),trivial⟩))
   all_goals (exfalso;revert hk;simp [iH, *])
  | true =>
   rw [hk,cond_true] at hR;obtain ⟨h0,h1,h2⟩:k=0∧cE a.name.toList=true∧br a.am=true:=by simpa [iH] using hk
   refine jb func55 rfl (fun b W=>by kernel_rfl) (by cases R <;> rfl) (Nat.le_of_ble_eq_true rfl) ?_;repeat' (first|refine af ?_ ?_|(refine aa 9 rfl ?_;first|(refine cB [] (Cc a.name) ?_)|(refine cB [] (yO a.am) ?_))|refine ae ?_|exact ah|(refine ab fun hb=>?_;first|(simp [h1] at hb;done)|(simp [h2] at hb;done)|skip))
   refine ak (fun i=>i≤acc.length∧iN a (acc.drop i)=iN a acc) (fun i=>cq [0,3] [(0,.c (.own 0)),(3,.c (.ptr 3 0)),(6,.i i)] [(3,.box 47 (xL d k a [])),(0,.arr 44 c7 acc)]) (fun i=>acc.length-i) 0 ⟨Nat.zero_le _,rfl⟩ a7 ?_;rintro i ⟨hi,hs⟩;by_cases hlt:i<acc.length
   ·rw [List.drop_eq_getElem_cons hlt,mo] at hs;repeat' (first|refine af ?_ ?_|refine ae ?_|exact ah|refine ab fun hb=>?_)
    ·obtain rfl:some acc=R:=by rw [←hR,f8,←hs];simp [hb]
     refine gC (qf [(1,0)]) ?_;exact aw
    ·refine ⟨i+1,⟨by omega,?_⟩,by omega,?_⟩
     ·rw [←hs];simp [hb]
     ·exact a7
   ·obtain rfl:some (acc++[a])=R:=by rw [←hR,f8,←hs,List.drop_eq_nil_of_le (by omega)];rfl
    repeat' (first|refine af ?_ ?_|(refine aa 8 rfl ?_;refine bh (ap rfl rfl (aH rfl rfl) (aL [a] rfl rfl rfl rfl) rfl aK aK) rfl rfl rfl ?_)|refine ae ?_|exact ah|refine ab fun hb=>?_|(refine gC (qf [(1,50)]) ?_;exact aw))
 | false =>
  have hl0:0<l.length:=List.length_pos_iff.2 fun e=>by rw [e] at hE;cases hE
  rw [hE,cond_false] at hR;refine jb func55 rfl (fun b W=>by kernel_rfl) (by cases R <;> rfl) (Nat.le_of_ble_eq_true rfl) ?_;refine bd (fun c ρ a w hr=>iy (t:=1) (i:=4) hr rfl rfl) (fun hx=>?_);obtain ⟨hlen,hne⟩:=hx;obtain ⟨e,rfl⟩:=hne hl0;cases hg:mq k a l with
  | false =>
   rw [hg] at hR;obtain rfl:=hR;repeat' (first|refine af ?_ ?_|refine ae ?_|exact ah|refine ab fun hb=>?_|(refine gC (qf []) ?_;exact .tup ⟨.one (.any _),.one (dX rfl),trivial⟩))
   all_goals (exfalso;revert hg;simp [mq, *];try omega)
  | true =>
   rw [hg,cond_true] at hR;obtain ⟨⟨h1,h2⟩,h3⟩:(1≤k∧k≤(l.length:Int))∧a=gN:=by simpa [mq] using hg
   subst h3;repeat' (first|refine af ?_ ?_|refine ae ?_|exact ah|(refine ab fun hb=>?_;first|(simp at hb;done)|skip))
   refine ak (fun x:Nat×List Tm=>x.1≤l.length∧x.2.length+gz (l.drop x.1)≤1000∧xj (l.drop x.1) x.2=R) (fun x=>cq [0,3,1000] [(0,.c (.own 1000)),(3,.c (.ptr 3 0)),(7,.i x.1)] [(3,.box 47 (xL (e+1) k gN l)),(1000,.arr 44 c7 x.2)]) (fun x=>l.length-x.1) (0,acc) ⟨Nat.zero_le _,by simpa using (by omega),hR⟩ (by exact bw (qf [(1000,0)])) ?_;rintro ⟨i,acc1⟩ ⟨hi,hc,hs⟩;dsimp only at *
   by_cases hlt:i<l.length
   ·rw [List.drop_eq_getElem_cons hlt] at hs hc;rw [su] at hs;rw [eS] at hc;have kS:=ih l[i] (List.getElem_mem hlt) e acc1 (by omega);have hlen2:=Bw l[i] acc1;clear ih;cases h1:tN l[i] acc1 with
    | none =>
     rw [h1] at hs kS;obtain rfl:=hs;repeat' (first|refine af ?_ ?_|refine aa 9 rfl (cH (qf [(0,1000),(1,1001)]) (kS) ?_)|refine ae ?_|exact ah|refine ab fun hb=>?_|(refine gC (qf []) ?_;exact .tup ⟨.one (.any _),.one (dX rfl),trivial⟩))
    | some r =>
     rw [h1] at hs kS;have hlen3:=hlen2 r h1;repeat' (first|refine af ?_ ?_|refine aa 9 rfl (cH (qf [(0,1000),(1,1001)]) (kS) ?_)|refine ae ?_|exact ah|refine ab fun hb=>?_)
     refine ⟨(i+1,r),⟨by dsimp only;omega,by dsimp only;omega,hs⟩,by dsimp only;omega,?_⟩;exact bw (qf [(1000,1001)])
   ·rw [List.drop_eq_nil_of_le (by omega)] at hs;obtain rfl:=hs;repeat' (first|refine af ?_ ?_|refine ae ?_|exact ah|refine ab fun hb=>?_|(refine gC (qf [(1,1000)]) ?_;exact aw))
theorem yT (d:Nat) (x:Ex):FSpec prog 31 [x.a d] [] [] (.tup [.one (.sl c7 (cJ x)),.one (.sc (.bool (kf x)))]) []:=by
 obtain ⟨v,hv⟩:∃v,kf x=v:=⟨_,rfl⟩;obtain ⟨T,hT⟩:∃T,cJ x=T:=⟨_,rfl⟩;have hcl:=oI x [];rw [hv,hT];unfold cJ at hT;rw [hv] at hT;unfold kf at hv;have hcnt:=x.cnt_pos;cases hk:wW x with
 | false =>
  obtain rfl:false=v:=by rw [←hv,hk];rfl
  obtain rfl:=hT;have kN:=yS x d (n:=0) (by rw [hk];rfl);refine aT func31 ?_;repeat' (first|refine af ?_ ?_|refine aa 9 rfl (cB [] (kN) ?_)|refine ae ?_|exact ah|refine ab fun hb=>?_|(refine gC (qf []) ?_;exact aw))
 | true =>
  have kN:=yS x d (n:=x.cnt) (by rw [hk];rfl);have h24:x.cnt≤24:=by have h:=hk;simp [wW] at h;exact h.2
  have kA:=(H6 x d [] (by simp;omega)).nil0 (by decide) fun q k=>rfl;rw [hk,Bool.true_and] at hv;rw [yw] at kA;cases hs:vj x with
  | false =>
   obtain rfl:false=v:=by rw [←hv,hs];rfl
   obtain rfl:=hT;rw [hs] at kA;refine aT func31 ?_;repeat' (first|refine af ?_ ?_|(refine aa 9 rfl ?_;first|(refine cB [] (kN) ?_)|(refine cH (qf [(0,1000),(1,1001)]) (kA) ?_))|refine ae ?_|exact ah|refine ab fun hb=>?_|(refine gC (qf []) ?_;exact aw))
  | true =>
   rw [hs,Bool.true_and] at hv;rw [hs,if_pos rfl] at kA;obtain ⟨L,hL⟩:∃L,eP x []=L:=⟨_,rfl⟩;rw [hL] at hv hT kA hcl;simp only [List.length_nil,Nat.zero_add] at hcl;refine aT func31 ?_;by_cases h8:8<L.length
   ·have hno:¬m9 L:=fun h=>by have:=h.1;omega
    obtain rfl:false=v:=by rw [←hv,decide_eq_false hno]
    obtain rfl:=hT;repeat' (first|refine af ?_ ?_|(refine aa 9 rfl ?_;first|(refine cB [] (kN) ?_)|(refine cH (qf [(0,1000),(1,1001)]) (kA) ?_))|refine ae ?_|exact ah|refine ab fun hb=>?_|(refine gC (qf []) ?_;exact aw))
   repeat' (first|refine af ?_ ?_|(refine aa 9 rfl ?_;first|(refine cB [] (kN) ?_)|(refine cH (qf [(0,1000),(1,1001)]) (kA) ?_))|refine ae ?_|exact ah|refine ab fun hb=>?_)
   refine ak (fun i=>i≤L.length∧Dist L i 0) (fun i=>cq [1001] [(4,.c (.own 1001)),(6,.i i)] [(1001,.arr 44 c7 L)]) (fun i=>L.length-i) 0 ⟨Nat.zero_le _,Dist.start L⟩ a7 ?_;rintro i ⟨hi,hd⟩;by_cases hlt:i<L.length
   ·repeat' (first
     | refine af ?_ ?_
     | refine ae ?_
     | exact ah|refine ab fun hb=>?_)
    refine ak (fun j=>j≤i∧Dist L i j) (fun j=>cq [1001] [(4,.c (.own 1001)),(6,.i i),(7,.i j)] [(1001,.arr 44 c7 L)]) (fun j=>i-j) 0 ⟨Nat.zero_le _,hd⟩ a7 ?_;rintro j ⟨hj,hd⟩;by_cases hji:j<i
    ·repeat' (first
      | refine af ?_ ?_
      | refine ae ?_
      | exact ah|refine ab fun hb=>?_)
     ·have hno:¬m9 L:=Dist.not hlt hji (toList_inj hb);obtain rfl:false=v:=by rw [←hv,decide_eq_false hno]
      obtain rfl:=hT;refine gC (qf []) ?_;exact aw
     ·refine ⟨j+1,⟨by omega,hd.step hlt hji fun e=>hb (by rw [e])⟩,by omega,?_⟩;exact a7
    ·repeat' (first
      | refine af ?_ ?_
      | refine ae ?_
      | exact ah|refine ab fun hb=>?_)
     refine ⟨i+1,⟨by omega,hd.row hji⟩,by omega,?_⟩;exact a7
   ·have hok:m9 L:=⟨by omega,hd.all hlt⟩;obtain rfl:true=v:=by rw [←hv,decide_eq_true hok]
    obtain rfl:=hT;repeat' (first|refine af ?_ ?_|refine ae ?_|exact ah|refine ab fun hb=>?_|(refine gC (qf []) ?_;exact aw))
end Go.Proofs.YtcgpepnbohejfaaGreatDoor
