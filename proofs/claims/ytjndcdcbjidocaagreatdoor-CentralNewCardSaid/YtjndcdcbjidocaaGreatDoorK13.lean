/- Part 13 of 35 of the proof of centralNew_holds (no condition). -/
import Derived.Test.YtjndcdcbjidocaaGreatDoorK12
set_option linter.unusedVariables false
set_option linter.unusedSimpArgs false
set_option maxRecDepth 100000
set_option maxHeartbeats 64000000
namespace Go.Proofs.YtjndcdcbjidocaaGreatDoor
open Go.RowKit Go.Proofs.Tryz
abbrev rp (d:Nat) (k:Int) (a:Tm) (l:List Ex):List D:=[.sc (.int .i64 k),.sc (.string a.name),.sc (.int .i64 a.am.mode),.sc (.int .i64 a.am.units),.sl (mY d) l]
theorem ua (s:ByteArray):FSpec prog 133 [.one (.sc (.string s))] [] [] (.b (co s.toList)) [] :=
 bY (fun b W=>by kernel_rfl) rfl fun w S ρ vs _ h=>by
  match vs,h with
  | [_],⟨rfl,_⟩=>exact (jp s w).mono fun e w' h=>⟨_,h.1,by rw [h.2];exact Below.refl _ _,rfl⟩
theorem G9:∀(x:Ex) (d dp:Nat),dp≤5→FSpec prog 274 [x.a d,iV dp] [] [] (.tup [iV (fN x dp).1,iV (fN x dp).2]) []:=by
  refine Ex.ind (fun k a l ih=>?_)
  intro d dp hdp
  obtain ⟨r,hr⟩:∃r,fN (.mk k a l) dp=r:=⟨_,rfl⟩
  rw [hr]
  rw [vn] at hr
  show FSpec prog 274 [.ag (rp d k a l),iV dp] [] [] (.tup [iV r.1,iV r.2]) []
  refine aS func274 ?_
  refine aH (fun c ρ a w hr=>gX (t:=0) (i:=4) hr rfl rfl) (fun hx=>?_)
  obtain ⟨hlen,hne⟩:=hx
  by_cases hc:4<dp∨24<l.length
  · rw [if_pos hc] at hr
    obtain rfl:=hr
    repeat' (first
      | refine ah ?_ ?_
      | refine af ?_
      | exact ai|refine ae fun hb=>?_
      | (refine fL (qf []) ?_;exact ab))
    all_goals (exfalso;omega)
  rw [if_neg hc] at hr
  repeat' (first
    | refine ah ?_ ?_
    | refine af ?_
    | exact ai|refine ae fun hb=>?_)
  refine aj (fun x:Nat×Nat×Nat=>x.1≤l.length∧x.2.1≤24∧x.2.2≤5∧iS (l.drop x.1) dp x.2.1 x.2.2=r) (fun x=>bH [2] [(1,.i dp),(2,.c (.ptr 2 0)),(6,.i x.2.1),(7,.i x.2.2),(8,.i x.1)] [(2,.box 42 (rp d k a l))]) (fun x=>l.length-x.1) (0,1,0) ⟨Nat.zero_le _,by decide,by decide,hr⟩ (by exact ao (qf [])) ?_
  rintro ⟨i,n,m⟩ ⟨hi,hn,hm,hs⟩
  dsimp only at *
  by_cases hlt:i<l.length
  case neg =>
    rw [List.drop_eq_nil_of_le (by omega)] at hs
    obtain rfl:=hs
    repeat' (first
      | refine ah ?_ ?_
      | refine af ?_
      | exact ai|refine ae fun hb=>?_
      | (refine fL (qf []) ?_;exact ab))
  rw [List.drop_eq_getElem_cons hlt,nY] at hs
  obtain ⟨e,rfl⟩:=hne (by omega)
  obtain ⟨⟨n1,m1⟩,h1⟩:∃p,fN l[i] (dp+1)=p:=⟨_,rfl⟩
  have h5:n1≤25∧m1≤5:=by
    rcases po l[i] (dp+1) with ⟨a1,a2,a3⟩|⟨a1,a3⟩ <;> rw [h1] at a3 <;> injection a3 <;> omega
  have kS:FSpec prog 274 [l[i].a e,iV ((dp:Int)+1)] [] [] (.tup [iV n1,iV m1]) []:=by
    have:=ih l[i] (List.getElem_mem hlt) e (dp+1) (by omega)
    rw [h1] at this
    exact this
  rw [h1] at hs
  dsimp only at hs
  clear ih h1
  repeat' (first
    | refine ah ?_ ?_
    | refine aa 9 rfl (cB [] (kS) ?_)
    | refine af ?_
    | exact ai|refine ae fun hb=>?_)
  all_goals first
    | (obtain rfl:(25,0)=r:=by rw [←hs,if_pos (by omega)]
       refine fL (qf []) ?_;exact ab)
    | (refine ⟨(i+1,n+n1,max m m1),⟨by dsimp only;omega,by dsimp only;omega,by dsimp only;omega,by rw [←hs,if_neg (by omega),show (if m<m1 then m1 else m)=max m m1 by split <;> omega]⟩,by dsimp only;omega,?_⟩
       dsimp only
       exact ao (qf []))
theorem yU (x:Ex) (d:Nat) {n:Nat} (hn:(if qX x=true then x.cnt else 0)=n):FSpec prog 210 [x.a d] [] [] (.i n) []:=by
 obtain ⟨⟨a,b⟩,h⟩:∃p,fN x 1=p:=⟨_,rfl⟩
 have h0:=BE x
 have kS:FSpec prog 274 [x.a d,iV 1] [] [] (.tup [iV a,iV b]) []:=by
  have:=G9 x d 1 (by decide)
  rw [h] at this
  exact this
 have h1:qX x=true→a=x.cnt:=fun e=>by
  rcases po x 1 with ⟨a1,a2,a3⟩|⟨a1,a3⟩
  ·rw [h] at a3;injection a3
  ·rw [a3] at h0;simp [e] at h0
 rw [h] at h0
 refine aS func210 ?_
 repeat' (first
  | refine ah ?_ ?_
  | refine aa 9 rfl (cB [] (kS) ?_)
  | refine af ?_
  | exact ai|refine ae fun hb=>?_)
 ·obtain rfl:0=n:=by rw [←hn,if_neg];rw [←h0];omega
  refine aE (qf []) ?_;exact ab
 ·obtain rfl:a=n:=by
   have h2:qX x=true:=by
    have h:¬24<a:=by omega
    rw [h0] at h;simpa using h
   rw [←hn,if_pos h2]
   exact h1 h2
  refine aE (qf []) ?_;exact ab
def Kt:Option (List Tm)→TV
 | some _=>.tup [.one (.own 1),.one (.sc (.bool true))]
 | none=>.tup [.one .any,.one (.sc (.bool false))]
def Ku (o:Option (List Tm)):List (Nat×Option Box):=[(0,none),(1,o.map (.arr 39 bV))]
theorem IS:∀(x:Ex) (d:Nat) (acc:List Tm),acc.length+x.cnt≤1000→FSpec prog 211 [.one (.own 0),x.a d] [(0,.arr 39 bV acc)] [1] (Kt (tz x acc)) (Ku (tz x acc)):=by
 refine Ex.ind (fun k a l ih=>?_)
 intro d acc hl
 rw [Ex.cnt_mk] at hl
 obtain ⟨R,hR⟩:∃R,tz (.mk k a l) acc=R:=⟨_,rfl⟩
 rw [hR]
 rw [yz] at hR
 show FSpec prog 211 [.one (.own 0),.ag (rp d k a l)] [(0,.arr 39 bV acc)] [1] (Kt R) (Ku R)
 cases hE:l.isEmpty with
 | true =>
  obtain rfl:=List.isEmpty_iff.1 hE
  rw [hE,cond_true,yy] at hR
  cases hk:decide (k=0) && gc a with
  | false =>
   rw [hk] at hR
   obtain rfl:none=R:=hR
   refine aS func211 ?_
   repeat' (first
    | refine ah ?_ ?_
    | (refine aa 9 rfl ?_;first
     | (refine cB [] (ua a.name) ?_)
     | (refine cB [] (mE a.am) ?_))
    | refine af ?_
    | exact ai|refine ae fun hb=>?_
    | (refine fL (qf []) ?_;exact .tup ⟨.one (.any _),.one (eC rfl),trivial⟩))
   all_goals (exfalso;revert hk;simp [gc, *])
  | true =>
   rw [hk,cond_true] at hR
   obtain ⟨h0,h1,h2⟩:k=0∧co a.name.toList=true∧bI a.am=true:=by simpa [gc] using hk
   refine fP func211 rfl (fun b W=>by kernel_rfl) (by cases R <;> rfl) (Nat.le_of_ble_eq_true rfl) ?_
   repeat' (first
    | refine ah ?_ ?_
    | (refine aa 9 rfl ?_;first
     | (refine cB [] (ua a.name) ?_)
     | (refine cB [] (mE a.am) ?_))
    | refine af ?_
    | exact ai|(refine ae fun hb=>?_;first|(simp [h1] at hb;done)|(simp [h2] at hb;done)|skip))
   refine aj (fun i=>i≤acc.length∧gR a (acc.drop i)=gR a acc) (fun i=>bH [0,3] [(0,.c (.own 0)),(3,.c (.ptr 3 0)),(6,.i i)] [(3,.box 42 (rp d k a [])),(0,.arr 39 bV acc)]) (fun i=>acc.length-i) 0 ⟨Nat.zero_le _,rfl⟩ (by exact ao (qf [])) ?_
   rintro i ⟨hi,hs⟩
   by_cases hlt:i<acc.length
   ·rw [List.drop_eq_getElem_cons hlt,ng] at hs
    repeat' (first
     | refine ah ?_ ?_
     | refine af ?_
     | exact ai|refine ae fun hb=>?_)
    ·obtain rfl:some acc=R:=by rw [←hR,f7,←hs];simp [hb]
     refine fL (qf [(1,0)]) ?_;exact ab
    ·refine ⟨i+1,⟨by omega,?_⟩,by omega,?_⟩
     ·rw [←hs];simp [hb]
     ·exact ao (qf [])
   ·obtain rfl:some (acc++[a])=R:=by rw [←hR,f7,←hs,List.drop_eq_nil_of_le (by omega)];rfl
    repeat' (first
     | refine ah ?_ ?_
     | (refine aa 8 rfl ?_;refine bg (aw rfl rfl (aL rfl rfl) (aP [a] rfl rfl rfl rfl) rfl aR aR) rfl rfl rfl ?_)
     | refine af ?_
     | exact ai|refine ae fun hb=>?_
     | (refine fL (qf [(1,50)]) ?_;exact ab))
 | false =>
  have hl0:0<l.length:=List.length_pos_iff.2 fun e=>by rw [e] at hE;cases hE
  rw [hE,cond_false] at hR
  refine fP func211 rfl (fun b W=>by kernel_rfl) (by cases R <;> rfl) (Nat.le_of_ble_eq_true rfl) ?_
  refine aH (fun c ρ a w hr=>gX (t:=1) (i:=4) hr rfl rfl) (fun hx=>?_)
  obtain ⟨hlen,hne⟩:=hx
  obtain ⟨e,rfl⟩:=hne hl0
  cases hg:lg k a l with
  | false =>
   rw [hg] at hR
   obtain rfl:=hR
   repeat' (first
    | refine ah ?_ ?_
    | refine af ?_
    | exact ai|refine ae fun hb=>?_
    | (refine fL (qf []) ?_;exact .tup ⟨.one (.any _),.one (eC rfl),trivial⟩))
   all_goals (exfalso;revert hg;simp [lg, *];try omega)
  | true =>
   rw [hg,cond_true] at hR
   obtain ⟨⟨h1,h2⟩,h3⟩:(1≤k∧k≤(l.length:Int))∧a=fO:=by simpa [lg] using hg
   subst h3
   repeat' (first
    | refine ah ?_ ?_
    | refine af ?_
    | exact ai|(refine ae fun hb=>?_;first|(simp at hb;done)|skip))
   refine aj (fun x:Nat×List Tm=>x.1≤l.length∧x.2.length+gQ (l.drop x.1)≤1000∧xl (l.drop x.1) x.2=R) (fun x=>bH [0,3,1000] [(0,.c (.own 1000)),(3,.c (.ptr 3 0)),(7,.i x.1)] [(3,.box 42 (rp (e+1) k fO l)),(1000,.arr 39 bV x.2)]) (fun x=>l.length-x.1) (0,acc) ⟨Nat.zero_le _,by simpa using (by omega),hR⟩ (by exact ao (qf [(1000,0)])) ?_
   rintro ⟨i,acc1⟩ ⟨hi,hc,hs⟩
   dsimp only at *
   by_cases hlt:i<l.length
   ·rw [List.drop_eq_getElem_cons hlt] at hs hc
    rw [r8] at hs
    rw [eT] at hc
    have kS:=ih l[i] (List.getElem_mem hlt) e acc1 (by omega)
    have hlen2:=BI l[i] acc1
    clear ih
    cases h1:tz l[i] acc1 with
    | none =>
     rw [h1] at hs kS
     obtain rfl:=hs
     repeat' (first
      | refine ah ?_ ?_
      | refine aa 9 rfl (cH (qf [(0,1000),(1,1001)]) (kS) ?_)
      | refine af ?_
      | exact ai|refine ae fun hb=>?_
      | (refine fL (qf []) ?_;exact .tup ⟨.one (.any _),.one (eC rfl),trivial⟩))
    | some r =>
     rw [h1] at hs kS
     have hlen3:=hlen2 r h1
     repeat' (first
      | refine ah ?_ ?_
      | refine aa 9 rfl (cH (qf [(0,1000),(1,1001)]) (kS) ?_)
      | refine af ?_
      | exact ai|refine ae fun hb=>?_)
     refine ⟨(i+1,r),⟨by dsimp only;omega,by dsimp only;omega,hs⟩,by dsimp only;omega,?_⟩
     exact ao (qf [(1000,1001)])
   ·rw [List.drop_eq_nil_of_le (by omega)] at hs
    obtain rfl:=hs
    repeat' (first
     | refine ah ?_ ?_
     | refine af ?_
     | exact ai|refine ae fun hb=>?_
     | (refine fL (qf [(1,1000)]) ?_;exact ab))
theorem mH (d:Nat) (x:Ex):FSpec prog 144 [x.a d] [] [] (.tup [.one (.sl bV (cj x)),.one (.sc (.bool (ib x)))]) []:=by
 obtain ⟨v,hv⟩:∃v,ib x=v:=⟨_,rfl⟩
 obtain ⟨T,hT⟩:∃T,cj x=T:=⟨_,rfl⟩
 have hcl:=mh x []
 rw [hv,hT]
 unfold cj at hT
 rw [hv] at hT
 unfold ib at hv
 have hcnt:=x.cnt_pos
 cases hk:qX x with
 | false =>
  obtain rfl:false=v:=by rw [←hv,hk];rfl
  obtain rfl:=hT
  have kN:=yU x d (n:=0) (by rw [hk];rfl)
  refine aS func144 ?_
  repeat' (first
   | refine ah ?_ ?_
   | refine aa 9 rfl (cB [] (kN) ?_)
   | refine af ?_
   | exact ai|refine ae fun hb=>?_
   | (refine fL (qf []) ?_;exact ab))
 | true =>
  have kN:=yU x d (n:=x.cnt) (by rw [hk];rfl)
  have h24:x.cnt≤24:=by have h:=hk;simp [qX] at h;exact h.2
  have kA:=(IS x d [] (by simp;omega)).nil0 (by decide) fun q k=>rfl
  rw [hk,Bool.true_and] at hv
  rw [yA] at kA
  cases hs:vr x with
  | false =>
   obtain rfl:false=v:=by rw [←hv,hs];rfl
   obtain rfl:=hT
   rw [hs] at kA
   refine aS func144 ?_
   repeat' (first
    | refine ah ?_ ?_
    | (refine aa 9 rfl ?_;first
     | (refine cB [] (kN) ?_)
     | (refine cH (qf [(0,1000),(1,1001)]) (kA) ?_))
    | refine af ?_
    | exact ai|refine ae fun hb=>?_
    | (refine fL (qf []) ?_;exact ab))
  | true =>
   rw [hs,Bool.true_and] at hv
   rw [hs,if_pos rfl] at kA
   obtain ⟨L,hL⟩:∃L,eb x []=L:=⟨_,rfl⟩
   rw [hL] at hv hT kA hcl
   simp only [List.length_nil,Nat.zero_add] at hcl
   refine aS func144 ?_
   by_cases h8:8<L.length
   ·have hno:¬nZ L:=fun h=>by have:=h.1;omega
    obtain rfl:false=v:=by rw [←hv,decide_eq_false hno]
    obtain rfl:=hT
    repeat' (first
     | refine ah ?_ ?_
     | (refine aa 9 rfl ?_;first
      | (refine cB [] (kN) ?_)
      | (refine cH (qf [(0,1000),(1,1001)]) (kA) ?_))
     | refine af ?_
     | exact ai|refine ae fun hb=>?_
     | (refine fL (qf []) ?_;exact ab))
   repeat' (first
    | refine ah ?_ ?_
    | (refine aa 9 rfl ?_;first
     | (refine cB [] (kN) ?_)
     | (refine cH (qf [(0,1000),(1,1001)]) (kA) ?_))
    | refine af ?_
    | exact ai|refine ae fun hb=>?_)
   refine aj (fun i=>i≤L.length∧Dist L i 0) (fun i=>bH [1001] [(4,.c (.own 1001)),(6,.i i)] [(1001,.arr 39 bV L)]) (fun i=>L.length-i) 0 ⟨Nat.zero_le _,Dist.start L⟩ (by exact ao (qf [])) ?_
   rintro i ⟨hi,hd⟩
   by_cases hlt:i<L.length
   ·repeat' (first
     | refine ah ?_ ?_
     | refine af ?_
     | exact ai|refine ae fun hb=>?_)
    refine aj (fun j=>j≤i∧Dist L i j) (fun j=>bH [1001] [(4,.c (.own 1001)),(6,.i i),(7,.i j)] [(1001,.arr 39 bV L)]) (fun j=>i-j) 0 ⟨Nat.zero_le _,hd⟩ (by exact ao (qf [])) ?_
    rintro j ⟨hj,hd⟩
    by_cases hji:j<i
    ·repeat' (first
      | refine ah ?_ ?_
      | refine af ?_
      | exact ai|refine ae fun hb=>?_)
     ·have hno:¬nZ L:=Dist.not hlt hji (toList_inj hb)
      obtain rfl:false=v:=by rw [←hv,decide_eq_false hno]
      obtain rfl:=hT
      refine fL (qf []) ?_;exact ab
     ·refine ⟨j+1,⟨by omega,hd.step hlt hji fun e=>hb (by rw [e])⟩,by omega,?_⟩
      exact ao (qf [])
    ·repeat' (first
      | refine ah ?_ ?_
      | refine af ?_
      | exact ai|refine ae fun hb=>?_)
     refine ⟨i+1,⟨by omega,hd.row hji⟩,by omega,?_⟩
     exact ao (qf [])
   ·have hok:nZ L:=⟨by omega,hd.all hlt⟩
    obtain rfl:true=v:=by rw [←hv,decide_eq_true hok]
    obtain rfl:=hT
    repeat' (first
     | refine ah ?_ ?_
     | refine af ?_
     | exact ai|refine ae fun hb=>?_
     | (refine fL (qf []) ?_;exact ab))
theorem Ha (d:Nat) (x:Ex):FSpec prog 143 [x.a d] [] [] (.b (ib x)) []:=by
 refine aS func143 ?_
 repeat' (first
  | refine ah ?_ ?_
  | refine aa 9 rfl (cC [] (mH d x) ?_)
  | refine af ?_
  | exact ai|refine ae fun hb=>?_
  | (refine aE (qf []) ?_;exact ab))
theorem E5 (d:Nat) (x:Ex):FSpec prog 75 [x.a d] [] [] (.c (.sl bV (cj x))) []:=by
 refine aS func75 ?_
 repeat' (first
  | refine ah ?_ ?_
  | refine aa 9 rfl (cC [] (mH d x) ?_)
  | refine af ?_
  | exact ai|refine ae fun hb=>?_
  | (refine aE (qf []) ?_;exact ab))
theorem yV:∀{l:List Ex},BG l=true→∀x∈l,vr x=true
 | [],_,_,hx=>absurd hx (by simp)
 | y :: l,h,x,hx=>by
  rw [mg,Bool.and_eq_true] at h
  rcases List.mem_cons.1 hx with rfl|hx
  ·exact h.1
  ·exact yV h.2 x hx
theorem Hb (d:Nat) (x:Ex) (L:List Tm) (set:List Bool) (hx2:vr x=true) (hL:L.length≤1000) (hs:set.length≤1000):FSpec prog 146 [x.a d,.one (.sl bV L),.one (.sl cU set)] [] [] (.b (rj (ck L set) x)) []:=by
 revert d x
 refine fun d x=>Ex.ind (P:=fun x=>∀d,vr x=true→FSpec prog 146 [x.a d,.one (.sl bV L),.one (.sl cU set)] [] [] (.b (rj (ck L set) x)) []) (fun k a l ih=>?_) x d
 intro d hx2
 rw [tx,Bool.and_eq_true] at hx2
 obtain ⟨hh,hx2⟩:=hx2
 unfold vq at hh
 obtain ⟨v,hv⟩:∃v,rj (ck L set) (.mk k a l)=v:=⟨_,rfl⟩
 rw [hv]
 rw [BO] at hv
 show FSpec prog 146 [.ag (rp d k a l),.one (.sl bV L),.one (.sl cU set)] [] [] (.b v) []
 refine aS func146 ?_
 cases hE:l.isEmpty with
 | true =>
  obtain rfl:=List.isEmpty_iff.1 hE
  rw [hE,cond_true] at hh hv
  simp only [Bool.and_eq_true,decide_eq_true_eq] at hh
  obtain ⟨rfl,_⟩:=hh
  repeat' (first
   | refine ah ?_ ?_
   | refine af ?_
   | exact ai|refine ae fun hb=>?_)
  refine aj (fun i=>i≤L.length∧ck (L.drop i) (set.drop i) a=v) (fun i=>bH [3] [(1,.c (.sl bV L)),(2,.c (.sl cU set)),(3,.c (.ptr 3 0)),(7,.i i)] [(3,.box 42 (rp d 0 a []))]) (fun i=>L.length-i) 0 ⟨Nat.zero_le _,hv⟩ (by exact ao (qf [])) ?_
  rintro i ⟨hi,hs⟩
  by_cases hlt:i<L.length
  ·rw [List.drop_eq_getElem_cons hlt,pu,List.tail_drop] at hs
   by_cases hsi:i<set.length
   ·rw [show set.drop i=_ from List.drop_eq_getElem_cons hsi] at hs
    repeat' (first
     | refine ah ?_ ?_
     | refine af ?_
     | exact ai|refine ae fun hb=>?_)
    ·refine dD ?_
     rw [←hs];simp [*]
    ·refine ⟨i+1,⟨by omega,?_⟩,by omega,?_⟩
     ·rw [←hs];simp [*]
     ·exact ao (qf [])
   ·rw [show set.drop i=[] from List.drop_eq_nil_of_le (by omega)] at hs
    repeat' (first
     | refine ah ?_ ?_
     | refine af ?_
     | exact ai|refine ae fun hb=>?_)
    ·refine dD ?_
     rw [←hs];simp [*]
    ·refine ⟨i+1,⟨by omega,?_⟩,by omega,?_⟩
     ·rw [←hs];simp [*]
     ·exact ao (qf [])
  ·rw [List.drop_eq_nil_of_le (by omega)] at hs
   repeat' (first
    | refine ah ?_ ?_
    | refine af ?_
    | exact ai|refine ae fun hb=>?_)
   refine dD ?_
   rw [←hs];rfl
 | false =>
  have hl0:0<l.length:=List.length_pos_iff.2 fun e=>by rw [e] at hE;cases hE
  refine aH (fun c ρ a w hr=>gX (t:=0) (i:=4) hr rfl rfl) (fun hx=>?_)
  obtain ⟨hlen,hne⟩:=hx
  obtain ⟨e,rfl⟩:=hne hl0
  rw [hE,cond_false] at hh hv
  simp only [Bool.and_eq_true,decide_eq_true_eq] at hh
  have hk:1≤k:=hh.1.1
  clear hh hne
  obtain ⟨N,hN⟩:∃N,zZ (ck L set) l=N:=⟨_,rfl⟩
  rw [hN] at hv
  repeat' (first
   | refine ah ?_ ?_
   | refine af ?_
   | exact ai|refine ae fun hb=>?_)
  refine aj (fun x:Nat×Nat=>x.1≤l.length∧x.2≤x.1∧x.2+zZ (ck L set) (l.drop x.1)=N) (fun x=>bH [3] [(1,.c (.sl bV L)),(2,.c (.sl cU set)),(3,.c (.ptr 3 0)),(8,.i x.2),(9,.i x.1)] [(3,.box 42 (rp (e+1) k a l))]) (fun x=>l.length-x.1) (0,0) ⟨Nat.zero_le _,Nat.le_refl _,by simpa using hN⟩ (by exact ao (qf [])) ?_
  rintro ⟨i,n⟩ ⟨hi,hn,hs⟩
  dsimp only at *
  by_cases hlt:i<l.length
  ·rw [List.drop_eq_getElem_cons hlt,vu] at hs
   have kS:=ih l[i] (List.getElem_mem hlt) e (yV hx2 _ (List.getElem_mem hlt))
   obtain ⟨b,hb1⟩:∃b,rj (ck L set) l[i]=b:=⟨_,rfl⟩
   rw [hb1] at kS hs
   clear ih hb1
   repeat' (first
    | refine ah ?_ ?_
    | refine aa 9 rfl (cB [] (kS) ?_)
    | refine af ?_
    | exact ai|refine ae fun hb=>?_)
   ·refine ⟨(i+1,n+1),⟨by dsimp only;omega,by dsimp only;omega,by rw [hb] at hs;simp at hs;dsimp only;omega⟩,by dsimp only;omega,?_⟩
    exact ao (qf [])
   ·refine ⟨(i+1,n),⟨by dsimp only;omega,by dsimp only;omega,by rw [hb] at hs;simpa using hs⟩,by dsimp only;omega,?_⟩
    exact ao (qf [])
  ·rw [List.drop_eq_nil_of_le (by omega)] at hs
   obtain rfl:n=N:=hs
   repeat' (first
    | refine ah ?_ ?_
    | refine af ?_
    | exact ai|refine ae fun hb=>?_)
   refine dD ?_
   rw [←hv]
theorem Hc (d:Nat) (x:Ex) (set:List Bool) (hs:set.length≤1000):FSpec prog 73 [x.a d,.one (.sl cU set)] [] [] (.b (dw x set)) []:=by
 unfold dw
 refine aS func73 ?_
 cases hv:ib x with
 | false =>
  repeat' (first
   | refine ah ?_ ?_
   | refine aa 9 rfl (cC [] (mH d x) ?_)
   | refine af ?_
   | exact ai|(refine ae fun hb=>?_;first|(simp [hv] at hb;done)|skip)
   | (refine aE (qf []) ?_;exact ab))
 | true =>
  obtain ⟨hsh,_,h8,_,_⟩:=ni hv
  repeat' (first
   | refine ah ?_ ?_
   | (refine aa 9 rfl ?_;first
    | (refine cC [] (mH d x) ?_)
    | (refine cB [] (Hb d x (cj x) set hsh (by omega) hs) ?_))
   | refine af ?_
   | exact ai|(refine ae fun hb=>?_;first|(simp [hv] at hb;done)|skip)
   | (refine aE (qf []) ?_;exact ab))
def Nd.val (x:Nd) (A:Option Addr) (cap:Nat):Value:=.agg #[.int .i64 x.proc.site,.int .i64 x.proc.inc,.int .i64 x.proc.num,.int .i64 x.expr.k,.string x.expr.atom.name,.int .i64 x.expr.atom.am.mode,.int .i64 x.expr.atom.am.units,.slice A x.expr.kids.length cap,.int .i64 x.gen]
def Nd.d (d:Nat) (x:Nd):List D:=[.sc (.int .i64 x.proc.site),.sc (.int .i64 x.proc.inc),.sc (.int .i64 x.proc.num),.sc (.int .i64 x.expr.k),.sc (.string x.expr.atom.name),.sc (.int .i64 x.expr.atom.am.mode),.sc (.int .i64 x.expr.atom.am.units),.sl (mY d) x.expr.kids,.sc (.int .i64 x.gen)]
def Nd.a (d:Nat) (x:Nd):V0:=.ag (x.d d)
instance (d:Nat):Dp (JA d) where
 deep:=Nd.d d
 get:=by
  rintro w F ρ x cs ⟨A,c,rfl,h1,h2⟩
  exact ⟨rfl,rfl,rfl,rfl,rfl,rfl,rfl,⟨A,c,rfl,h1,h2⟩,rfl,trivial⟩
 put:=by
  intro w F ρ x cs h
  match cs,h with
  | [_,_,_,_,_,_,_,_,_],⟨rfl,rfl,rfl,rfl,rfl,rfl,rfl,⟨A,c,rfl,h1,h2⟩,rfl,_⟩=>exact ⟨A,c,rfl,h1,h2⟩
 nok:=fun _ _=>rfl
def Ws.d (d:Nat) (s:Ws):List D:=[.sl dt s.queues,.sl (JA d) s.needs]
def Ws.a (d:Nat) (s:Ws):V0:=.ag (s.d d)
theorem Cz {n:Nat} {q:Qu} {acc:List Ho} (hs:Sd q) (h:ax q=true):eF n q acc=(q,acc):=by
 cases n with
 | zero=>rfl
 | succ n =>
  have h2:=(cG.1 h).2
  unfold eF
  cases hh:di q with
  | none=>rfl
  | some x=>dsimp only;rw [h2 x hh];rfl
theorem AD {n:Nat} {q:Qu} {acc:List Ho} (hs:Sd q) (h:ax q=false) (hn:ge q≤n):∃x,di q=some x∧Sd (gF q x)∧ge (gF q x)+1=ge q∧0<n∧eF n q acc=eF (n-1) (gF q x) (acc++[⟨x.proc,x.am⟩]):=by
 cases hh:di q with
 | none=>rw [cG.2 ⟨hs,fun x hx=>by rw [hh] at hx;cases hx⟩] at h;cases h
 | some x =>
  have hr:fv q.res q.holds x.proc x.am=true:=by
   cases hc:fv q.res q.holds x.proc x.am with
   | true=>rfl
   | false=>rw [cG.2 ⟨hs,fun y hy=>by rw [hh] at hy;injection hy with hy;rw [←hy];exact hc⟩] at h;cases h
  have hp:=xA hh
  obtain ⟨m,rfl⟩:∃m,n=m+1:=⟨n-1,by omega⟩
  refine ⟨x,rfl,hs.pop hh hr,hp,Nat.succ_pos _,?_⟩
  rw [eF,hh]
  dsimp only
  rw [hr]
  rfl
def AE:List D:=[.sc (.string ⟨#[]⟩),.sc (.int .i64 0),.sc (.int .i64 0),.sc (.int .i64 0),.sc (.slice none 0 0),.sc (.slice none 0 0),.sc (.slice none 0 0),.sc (.int .i64 0)]
def ub (R:Qu×List Ho×Int):TV:=.tup [R.1.a,.one (.sl ga R.2.1),.one (.sc (.int .i64 R.2.2))]
theorem CA (q:Qu) (p:Pr):FSpec prog 140 [q.a,p.a] [] [] (.v (aq q.holds p).a) []:=by
 refine aS func140 ?_
 repeat' (first
  | refine ah ?_ ?_
  | refine aa 9 rfl (cB [] (G7 q.holds p) ?_)
  | refine af ?_
  | exact ai|refine ae fun hb=>?_
  | (refine aE (qf []) ?_;exact ab))
theorem qg (q:Qu) (p:Pr) {o:Option Am} (h:ap q p=o):FSpec prog 142 [q.a,p.a] [] [] (.tup [(xL o).a,.one (.sc (.bool o.isSome))]) []:=h▸E0 q p
theorem bF {α:Type} {b:Bool} {x y:α} (h:b=false):(bif b then x else y)=y:=by rw [h];rfl
theorem bT {α:Type} {b:Bool} {x y:α} (h:b=true):(bif b then x else y)=x:=by rw [h];rfl
instance:ST prog dt 23 81 120:=⟨ElTB.mk' underlying23 (.agg #[.string { data:=#[] },.int .i64 0,.int .i64 0,.int .i64 0,.slice none 0 0,.slice none 0 0,.slice none 0 0,.int .i64 0]) 8 120 (by kernel_rfl) rfl rfl⟩
theorem wh {t:List Qu} (h:fy t=true):t.length≤8∧∀q∈t,ax q=true:=by
 unfold fy at h
 rw [Bool.and_eq_true,decide_eq_true_eq] at h
 exact ⟨h.1,pX h.2⟩
theorem cz {q:Qu} (h:ax q=true):eO q:=by
 have hs:=aK h
 exact ⟨hs.hv.len,hs.clen,by have:=hs.wlen;omega⟩
theorem E6 (t:List Qu):FSpec prog 28 [.one (.sl dt t)] [] [] (.b (df t)) []:=by
 refine aS func28 ?_
 cases hP:fy t with
 | false =>
  repeat' (first
   | refine ah ?_ ?_
   | refine aa 9 rfl (cB [] (Cw t) ?_)
   | refine af ?_
   | exact ai|refine ae fun hb=>?_)
  refine dD ?_
  simp [df,hP]
 | true =>
  obtain ⟨hm,h8⟩:=wh hP
  repeat' (first
   | refine ah ?_ ?_
   | (refine aa 9 rfl ?_;first
    | (refine cB [] (Cw t) ?_)
    | (refine cC [] (yT t (by omega) (fun q hq=>cz (h8 q hq))) ?_))
   | refine af ?_
   | exact ai|refine ae fun hb=>?_)
  refine dD ?_
  simp [df,hP]
  try omega
def JV (d:Nat):V0:=.ag [.sc (.int .i64 0),.sc (.string ⟨#[]⟩),.sc (.int .i64 0),.sc (.int .i64 0),.sl (mY d) []]
theorem xN (d:Nat) (x:Ex):FSpec prog 105 [x.a d,JV d] [] [] (.b (D4 x)) []:=by
 refine aS func105 ?_
 obtain ⟨b,hB⟩:∃b,D4 x=b:=⟨_,rfl⟩
 rw [hB]
 by_cases hk:x.k=0
 case neg =>
  obtain rfl:b=false:=by rw [←hB];simp [D4,hk]
  repeat' (first
   | refine ah ?_ ?_
   | refine af ?_
   | exact ai|refine ae fun hb=>?_
   | (refine aE (qf []) ?_;exact ab))
 by_cases ha:x.atom=fO
 case neg =>
  obtain rfl:b=false:=by rw [←hB];simp [D4,ha]
  repeat' (first
   | refine ah ?_ ?_
   | refine af ?_
   | exact ai|refine ae fun hb=>?_
   | (refine aE (qf []) ?_;exact ab))
 by_cases hn:x.kids.length=0
 case neg =>
  obtain rfl:b=false:=by
   rw [←hB]
   cases h:x.kids with
   | nil=>rw [h] at hn;simp at hn
   | cons=>simp [D4,h]
  repeat' (first
   | refine ah ?_ ?_
   | refine af ?_
   | exact ai|(refine ae fun hb=>?_;first|(exact absurd (by simpa using hb) hn)|skip)
   | (refine aE (qf []) ?_;exact ab))
 have hn2:x.kids=[]:=List.eq_nil_of_length_eq_zero hn
 obtain rfl:b=true:=by rw [←hB];simp [D4,hk,ha,hn2]
 repeat' (first
  | refine ah ?_ ?_
  | refine af ?_
  | exact ai|(refine ae fun hb=>?_;first|(exact absurd hn (by simpa using hb))|skip))
 refine aj (fun _:Unit=>True) (fun _=>bH [2] [(2,.c (.ptr 2 0)),(5,.i 0)] [(2,.box 42 (x.d d))]) (fun _=>0) () trivial (by exact ao (qf [])) ?_
 rintro _ -
 repeat' (first
  | refine ah ?_ ?_
  | refine af ?_
  | exact ai|refine ae fun hb=>?_
  | (refine aE (qf []) ?_;exact ab))
def JW (d:Nat):V0:=.ag [.sc (.int .i64 0),.sc (.string ⟨#[]⟩),.sc (.int .i64 0),.sc (.int .i64 0),.sl (mY d) [],.sc (.int .i64 0),.sc (.int .i64 0)]
theorem AF (d:Nat) (r:Rq):FSpec prog 45 [r.a d,JW d] [] [] (.b (D5 r)) []:=by
 refine aS func45 ?_
 obtain ⟨b,hB⟩:∃b,D5 r=b:=⟨_,rfl⟩
 rw [hB]
 repeat' (first
  | refine ah ?_ ?_
  | refine aa 9 rfl (cB [] (xN d r.expr) ?_)
  | refine af ?_
  | exact ai|refine ae fun hb=>?_)
 all_goals (refine dD ?_;rw [←hB];simp [D5, *];try rfl)
theorem CB (d:Nat) (r:Rq):FSpec prog 70 [r.a d] [] [] (.b (oM r)) []:=by
 refine aS func70 ?_
 obtain ⟨b,hB⟩:∃b,oM r=b:=⟨_,rfl⟩
 rw [hB]
 repeat' (first
  | refine ah ?_ ?_
  | refine aa 9 rfl (cB [] (Ha d r.expr) ?_)
  | refine af ?_
  | exact ai|refine ae fun hb=>?_)
 all_goals (refine dD ?_;rw [←hB];simp [oM, *];try omega)
theorem wi (d:Nat) (x:Ex) {b:Bool} {L:List Tm} (h:ib x=b) (h2:cj x=L):FSpec prog 144 [x.a d] [] [] (.tup [.one (.sl bV L),.one (.sc (.bool b))]) []:=h▸h2▸mH d x
theorem nx (q:Qu) (p:Pr) (a:Am) (prio:Int) {R:Qu×List Ho×Int} (hR:bK q p a prio=R) (hS:ax q=true) (hv:js p=true) (h1:0≤prio) (h2:prio≤7) (hf:aD q.res a=true) (hw:ap q p=none) (hc:bb q.res (aq q.holds p) a=false) :
  R=(bif !aG (aq q.holds p) then iL (dE { q with convs:=q.convs++[⟨p,bB q.res (aq q.holds p) a,0,0⟩] }) else
 bif decide (8≤q.holds.length+q.waits.length) then bW 4 else
 bif !decide ((lh q.waits ⟨p,a,prio,0⟩).1=0) then bW (lh q.waits ⟨p,a,prio,0⟩).1 else
 iL (dE { q with waits:=(lh q.waits ⟨p,a,prio,0⟩).2 })):=by
 rw [←hR];simp [bK,hS,hv,h1,h2,hf,hw,hc]
theorem sG:∀(n:Nat) (q:Qu) (acc:List Ho),(eF n q acc).2.length≤acc.length+n
 | 0,q,acc=>Nat.le_refl _
 | n+1,q,acc=>by
  unfold eF
  cases di q with
  | none=>dsimp only;omega
  | some x =>
   dsimp only
   cases fv q.res q.holds x.proc x.am with
   | true =>
    have:=sG n (gF q x) (acc++[⟨x.proc,x.am⟩])
    simp at this ⊢
    omega
   | false=>simp
theorem mI (q:Qu):(dE q).2.length≤q.convs.length+q.waits.length:=by
 have:=sG (ge q) q []
 simpa [dE,mq,ge] using this
theorem CC (l:List Wt) (w:Wt):(lh l w).2.length≤l.length+1:=by
 unfold lh
 cases eh l <;> cases (pe w && decide (w.passed=0)) <;> cases decide (0≤dh l w.proc) <;> cases decide (l.length=8) <;> simp [vM]
theorem qh {q:Qu} (h:ax q=true) (p:Pr) (a:Am) (prio:Int):(bK q p a prio).2.1.length≤17:=by
 have hs:=aK h
 have h2:=hs.clen
 have h3:=hs.wlen
 unfold bK
 have e1:=mI { q with convs:=q.convs++[⟨p,bB q.res (aq q.holds p) a,0,0⟩] }
 have e2:=mI { q with waits:=(lh q.waits ⟨p,a,prio,0⟩).2 }
 have e3:=CC q.waits ⟨p,a,prio,0⟩
 simp only [List.length_append,List.length_cons,List.length_nil] at e1 e2
 repeat' (first|(simp [bW,iL];done)|(simp only [iL];omega)|(rw [cond_eq_ite];split))
theorem oo {q:Qu} (h:ax q=true) (p:Pr):(bq q p).2.1.length≤17:=by
 have hs:=aK h
 have h2:=hs.clen
 have h3:=hs.wlen
 have e1:=mI { q with convs:=b7 q.convs p,waits:=b7 q.waits p }
 have e2:=io q.convs p
 have e3:=io q.waits p
 dsimp only at e1
 unfold bq
 repeat' (first|(simp [bW,iL];done)|(simp only [iL];omega)|(rw [cond_eq_ite];split))
theorem qi {q:Qu} (h:ax q=true) (p:Pr) (a:Am):(bC q p a).2.1.length≤17:=by
 have hs:=aK h
 have h2:=hs.clen
 have h3:=hs.wlen
 have e1:=mI { q with holds:=b9 q.holds p a }
 dsimp only at e1
 unfold bC
 repeat' (first|(simp [bW,iL];done)|(simp only [iL];omega)|(rw [cond_eq_ite];split))
theorem oq {q:Qu} (h:ax q=true) (p:Pr):(ba q p).2.1.length≤17:=by
 have hs:=aK h
 have h2:=hs.clen
 have h3:=hs.wlen
 have e1:=mI { q with holds:=b9 q.holds p ⟨0,0⟩,convs:=b7 q.convs p,waits:=b7 q.waits p }
 have e2:=io q.convs p
 have e3:=io q.waits p
 dsimp only at e1
 unfold ba
 repeat' (first|(simp [bW,iL];done)|(simp only [iL];omega)|(rw [cond_eq_ite];split))
def Hd (R:List Qu×List Ev×Int):TV:=.tup [.one (.sl dt R.1),.one (.sl i7 R.2.1),.one (.sc (.int .i64 R.2.2))]
theorem yW (l:List Qu) (n:ByteArray) {k:Int} (h:bi n 0 l=k):FSpec prog 65 [.one (.sl dt l),.one (.sc (.string n))] [] [] (.i k) []:=h▸xM l n
theorem eK {t:List Qu} {n:ByteArray} (h:¬bi n 0 t<0):∃i,∃hi:i<t.length,bi n 0 t=(i:Int)∧t.getD (ic t n) jh=t[i]∧ic t n=i:=by
 obtain ⟨i,hi,h1,_⟩:=i3 (Int.not_lt.1 h)
 have h2:bi n 0 t=(i:Int):=by rw [h1];simp
 refine ⟨i,hi,h2,?_,?_⟩
 ·unfold ic;rw [h2];simp [List.getD_eq_getElem?_getD,hi]
 ·unfold ic;rw [h2];rfl
theorem ou (n:ByteArray):∀{t t':List Qu} (k:Nat),es t=es t'→bi n k t=bi n k t'
 | [],[],_,_=>rfl
 | [],_ :: _,_,h=>by simp [es] at h
 | _ :: _,[],_,h=>by simp [es] at h
 | q :: t,q' :: t',k,h=>by
  have h':q.res.name :: es t=q'.res.name :: es t':=h
  injection h' with h1 h2
  rw [eN,eN,h1,ou n (k+1) h2]
theorem ef {t t':List Qu} (h:es t=es t') (n:ByteArray):aO t n=aO t' n∧ic t n=ic t' n:=by
 unfold aO ic
 rw [ou n 0 h]
 exact ⟨rfl,rfl⟩
theorem ny {t:List Qu} {n:ByteArray} (h:aO t n=true):∃i,∃hi:i<t.length,ic t n=i∧t[i].res.name=n∧aX t n=t[i]:=by
 unfold aO at h
 obtain ⟨i,hi,e1,e2⟩:=i3 (of_decide_eq_true h)
 have e3:ic t n=i:=by unfold ic;rw [e1];omega
 refine ⟨i,hi,e3,e2,?_⟩
 unfold aX
 rw [e3]
 simp [hi]
theorem dg {t:List Qu} {n:ByteArray} (h:aO t n=true):aX t n∈t∧(aX t n).res.name=n:=by
 obtain ⟨i,hi,_,e2,e3⟩:=ny h
 rw [e3]
 exact ⟨List.getElem_mem hi,e2⟩
theorem kt {t:List Qu} (hv:df t=true) {q:Qu} (hq:q∈t):aO t q.res.name=true∧aX t q.res.name=q:=by
 obtain ⟨i,hi,rfl⟩:=List.mem_iff_getElem.1 hq
 have h:=vT (k:=0) hi (vS hv)
 unfold aO aX ic
 rw [h]
 refine ⟨decide_eq_true (by omega),?_⟩
 have:((0+i:Nat):Int).toNat=i:=by omega
 rw [this]
 simp [hi]
structure TStep (t t':List Qu) (p:Pr) (n:ByteArray):Prop where
 v:df t'=true
 nm:es t'=es t
 has:aO t n=true
 oth:∀m,m≠n→aO t m=true→aX t' m=aX t m
 out:Out (aX t n) (aX t' n) p
 sub:∀r∈aF t',r=p∨r∈aF t
theorem TOut.step {t t':List Qu} {i:Nat} {p:Pr} {n:ByteArray} (h:TOut t t' i p) (hv:df t=true) (hn:(t[i]'h.lt).res.name=n) (hp:(aF t).length≤7∨p∈aF t∨p ∉ aF t'):TStep t t' p n:=by
 have hm:=h.names
 have hmem:=kt hv (List.getElem_mem h.lt)
 rw [hn] at hmem
 have hix:ic t n=i:=by
  obtain ⟨j,hj,e1,e2,e3⟩:=ny hmem.1
  rw [e1]
  have hnd:=vS hv
  unfold es at hnd
  rcases Nat.lt_trichotomy j i with hlt|he|hgt
  ·have:=List.pairwise_iff_getElem.1 hnd j i (by simpa using hj) (by simpa using h.lt) hlt
   simp only [List.getElem_map] at this
   exact absurd (e2.trans hn.symm) this
  ·exact he
  ·have:=List.pairwise_iff_getElem.1 hnd i j (by simpa using h.lt) (by simpa using hj) hgt
   simp only [List.getElem_map] at this
   exact absurd (hn.trans e2.symm) this
 refine ⟨h.valid hv hp,hm,hmem.1,fun m hne hh=>?_,?_,ss hv h⟩
 ·unfold aX
  rw [(ef hm m).2]
  obtain ⟨j,hj,e1,e2,_⟩:=ny hh
  rw [e1]
  have hji:j≠i:=fun e=>by subst e;exact hne (e2.symm.trans hn)
  have:=h.other hji
  simp only [List.getD_eq_getElem?_getD,this]
 ·obtain ⟨q,e,ho⟩:=h.at
  have e2:aX t' n=q:=by
   unfold aX
   rw [(ef hm n).2,hix]
   simp only [List.getD_eq_getElem?_getD,e]
   rfl
  rw [e2,hmem.2]
  exact ho
theorem TStep.hasE {t t':List Qu} {p:Pr} {n:ByteArray} (h:TStep t t' p n) (m:ByteArray):aO t' m=aO t m:=(ef h.nm m).1
theorem TStep.res {t t':List Qu} {p:Pr} {n:ByteArray} (h:TStep t t' p n) {m:ByteArray} (hm:aO t m=true):(aX t' m).res=(aX t m).res:=by
 by_cases e:m=n
 ·rw [e];exact h.out.res
 ·rw [h.oth m e hm]
structure TP (t t':List Qu) (p:Pr):Prop where
 v:df t'=true
 nm:es t'=es t
 out:∀n,aO t n=true→Out (aX t n) (aX t' n) p
 sub:∀r∈aF t',r=p∨r∈aF t
theorem TStep.tp {t t':List Qu} {p:Pr} {n:ByteArray} (hv:df t=true) (h:TStep t t' p n):TP t t' p:=by
 refine ⟨h.v,h.nm,fun m hm=>?_,h.sub⟩
 by_cases e:m=n
 ·subst e;exact h.out
 ·rw [h.oth m e hm]
  exact Out.same p (cA hv (dg hm).1)
theorem TP.hasE {t t':List Qu} {p:Pr} (h:TP t t' p) (m:ByteArray):aO t' m=aO t m:=(ef h.nm m).1
abbrev fZ (x:Pc) (n:ByteArray):Am:=az x.led.entries n
structure FitR (t:List Qu) (n:ByteArray) (x:Pc):Prop where
 h:aq (aX t n).holds x.proc=fZ x n
 w:ap (aX t n) x.proc=none
abbrev jn (t:List Qu) (n:ByteArray) (x:Pc) (a:Am):Am:=bB (aX t n).res (fZ x n) a
def FitA (t:List Qu) (n:ByteArray) (x:Pc) (a:Am):Prop :=
  (bb (aX t n).res (fZ x n) a=true∧FitR t n x)∨(bb (aX t n).res (fZ x n) a=false∧
    ((aq (aX t n).holds x.proc=jn t n x a∧ap (aX t n) x.proc=none)∨
     (aq (aX t n).holds x.proc=fZ x n∧ap (aX t n) x.proc=some (jn t n x a)∧∀y∈(aX t n).waits,y.proc=x.proc→y.prio=x.req.prio)))
def cV (l:List Tm) (n:ByteArray):Option Tm:=l.find? fun a=>aY a.name n
def FitW (t:List Qu) (n:ByteArray) (x:Pc) (l:List Tm):Prop:=match cV l n with
 | none=>FitR t n x
 | some a=>FitA t n x a.am
theorem FitR.tp {t t':List Qu} {p:Pr} {m:ByteArray} {x:Pc} (hs:TP t t' p) (hp:x.proc≠p) (hm:aO t m=true) (h:FitR t m x):FitR t' m x:=by
 rcases (hs.out m hm).eff x.proc hp with ⟨h1,h2⟩|⟨a,h1,_⟩
 ·exact ⟨h1.trans h.h,h2.trans h.w⟩
 ·rw [h.w] at h1;cases h1
theorem FitA.tp {t t':List Qu} {p:Pr} {m:ByteArray} {x:Pc} {a:Am} (hs:TP t t' p) (hp:x.proc≠p) (hm:aO t m=true) (h:FitA t m x a):FitA t' m x a:=by
 have hr:=(hs.out m hm).res
 unfold FitA jn at *
 rw [hr]
 rcases h with ⟨h1,h2⟩|⟨h1,h2⟩
 ·exact .inl ⟨h1,h2.tp hs hp hm⟩
 ·refine .inr ⟨h1,?_⟩
  rcases h2 with ⟨h3,h4⟩|⟨h3,h4,h5⟩
  ·rcases (hs.out m hm).eff x.proc hp with ⟨k1,k2⟩|⟨b,k1,_⟩
   ·exact .inl ⟨k1.trans h3,k2.trans h4⟩
   ·rw [h4] at k1;cases k1
  ·rcases (hs.out m hm).eff x.proc hp with ⟨k1,k2⟩|⟨b,k1,k2,k3⟩
   ·refine .inr ⟨k1.trans h3,k2.trans h4,fun y hy hyp=>?_⟩
    obtain ⟨z,hz,e1,e2⟩:=(hs.out m hm).prio y hy (by rw [hyp];exact hp)
    rw [←e2]
    exact h5 z hz (e1.trans hyp)
   ·rw [h4] at k1
    injection k1 with k1
    exact .inl ⟨k2.trans k1.symm,k3⟩
theorem FitW.tp {t t':List Qu} {p:Pr} {m:ByteArray} {x:Pc} {l:List Tm} (hs:TP t t' p) (hp:x.proc≠p) (hm:aO t m=true) (h:FitW t m x l):FitW t' m x l:=by
 unfold FitW at *
 cases hf:cV l m with
 | none=>rw [hf] at h;exact h.tp hs hp hm
 | some a=>rw [hf] at h;exact h.tp hs hp hm
structure PStat (t:List Qu) (x:Pc):Prop where
 vp:js x.proc=true
 cost:1≤x.cost∧x.cost≤1000
 led:Ld x.led
 gen:0≤x.gen∧x.gen≤1073741824
 hf:∀n,fZ x n≠⟨0,0⟩→aO t n=true∧aD (aX t n).res (fZ x n)=true
theorem wj {t t':List Qu} {p:Pr} (hs:TP t t' p):∀l:List Tm,eG t' l=eG t l
 | []=>rfl
 | a :: l=>by
  unfold eG
  rw [hs.hasE,wj hs l]
  cases hh:aO t a.name with
  | false=>rfl
  | true=>rw [(hs.out _ hh).res]
theorem yX {t t':List Qu} {p:Pr} (hs:TP t t' p) (x:Ex):go t' x=go t x:=by
 unfold go
 rw [wj hs]
structure PWait (t:List Qu) (now:Int) (x:Pc):Prop where
 rq:oM x.req=true
 rs:go t x.req.expr=0
 sn:0≤x.since∧x.since≤now
structure PInv (t:List Qu) (now:Int) (x:Pc):Prop where
 stat:PStat t x
 run:x.waiting=false→x.req=Rq.zero∧x.since=0∧∀n,aO t n=true→FitR t n x
 wat:x.waiting=true→PWait t now x∧∀n,aO t n=true→FitW t n x (cj x.req.expr)
theorem PStat.tp {t t':List Qu} {p:Pr} {x:Pc} (hs:TP t t' p) (h:PStat t x):PStat t' x :=
 ⟨h.vp,h.cost,h.led,h.gen,fun m hm=>by
  obtain ⟨h1,h2⟩:=h.hf m hm
  exact ⟨by rw [hs.hasE];exact h1,by rw [(hs.out m h1).res];exact h2⟩⟩
theorem PWait.tp {t t':List Qu} {p:Pr} {now:Int} {x:Pc} (hs:TP t t' p) (h:PWait t now x):PWait t' now x:=⟨h.rq,by rw [yX hs];exact h.rs,h.sn⟩
theorem PInv.tp {t t':List Qu} {p:Pr} {now:Int} {x:Pc} (hs:TP t t' p) (hp:x.proc≠p) (h:PInv t now x):PInv t' now x:=by
 refine ⟨h.stat.tp hs,fun hw=>?_,fun hw=>?_⟩
 ·obtain ⟨h1,h2,h3⟩:=h.run hw
  exact ⟨h1,h2,fun m hm=>by rw [hs.hasE] at hm;exact (h3 m hm).tp hs hp hm⟩
 ·obtain ⟨h1,h2⟩:=h.wat hw
  exact ⟨h1.tp hs,fun m hm=>by rw [hs.hasE] at hm;exact (h2 m hm).tp hs hp hm⟩
theorem uc {t:List Qu} {n:ByteArray} {p:Pr} {q':Qu} (h:aO t n=true) (ho:Out (aX t n) q' p):∃i,∃hi:i<t.length,ic t n=i∧t[i].res.name=n∧TOut t (t.set (ic t n) q') i p:=by
 obtain ⟨i,hi,e1,e2,e3⟩:=ny h
 refine ⟨i,hi,e1,e2,hi,q',by rw [e1],?_⟩
 rw [e3] at ho
 exact ho
theorem ud {t:List Qu} {n:ByteArray} {q':Qu} (h:aO t n=true) (hn:es (t.set (ic t n) q')=es t):aX (t.set (ic t n) q') n=q':=by
 obtain ⟨i,hi,e1,e2,e3⟩:=ny h
 unfold aX
 rw [(ef hn n).2,e1]
 simp [hi]
theorem qj {t:List Qu} {p:Pr} {n:ByteArray} (hv:df t=true) (h:aO t n=true) (hw:(ap (aX t n) p).isSome=true) :
  bM t p n=(t.set (ic t n) (bq (aX t n) p).1,aV n (bq (aX t n) p).2.1,0)∧TStep t (bM t p n).1 p n∧aq (aX (bM t p n).1 n).holds p=aq (aX t n).holds p∧ap (aX (bM t p n).1 n) p=none:=by
 have hq:=dg h
 have hs:=tS (cA hv hq.1) hw
 obtain ⟨ho,h1,h2⟩:=vV hs
 have e:bM t p n=(t.set (ic t n) (bq (aX t n) p).1,aV n (bq (aX t n) p).2.1,0):=by
  unfold aO at h
  have hf:=of_decide_eq_true h
  unfold bM
  rw [hv,decide_eq_false (show ¬bi n 0 t<0 by omega)]
  simp only [Bool.not_true,cond_false]
  rw [show t.getD (ic t n) jh=aX t n from rfl,decide_eq_true hs]
  rfl
 obtain ⟨i,hi,e1,e2,hto⟩:=uc h ho
 have hp:p∈aF t:=by
  unfold aF
  rw [ct,fR]
  exact ⟨_,hq.1,(dA (aK (cA hv hq.1)) p).2 (by unfold fu;rw [hw];rfl)⟩
 have hst:TStep t (bM t p n).1 p n:=by rw [e];exact hto.step hv e2 (.inr (.inl hp))
 have hq2:aX (bM t p n).1 n=(bq (aX t n) p).1:=by
  have:=hst.nm
  rw [e] at this ⊢
  exact ud h this
 exact ⟨e,hst,by rw [hq2];exact h1,by rw [hq2];exact h2⟩
theorem nz {t:List Qu} {p:Pr} {a:Tm} (hv:df t=true) (h:aO t a.name=true) (h0:aq (aX t a.name).holds p≠⟨0,0⟩) (hw:ap (aX t a.name) p=none) (hc:bb (aX t a.name).res (aq (aX t a.name).holds p) a.am=true) :
  cy t p a=(t.set (ic t a.name) (bC (aX t a.name) p a.am).1,(bif decide (aq (aX t a.name).holds p=a.am) then [] else [⟨3,p,a.name,a.am⟩])++aV a.name (bC (aX t a.name) p a.am).2.1,0)∧TStep t (cy t p a).1 p a.name∧aq (aX (cy t p a).1 a.name).holds p=a.am∧ap (aX (cy t p a).1 a.name) p=none:=by
 have hq:=dg h
 have hs:=vW (cA hv hq.1) h0 hw hc
 obtain ⟨ho,h1,h2⟩:=xG hs
 have e:cy t p a=(t.set (ic t a.name) (bC (aX t a.name) p a.am).1,(bif decide (aq (aX t a.name).holds p=a.am) then [] else [⟨3,p,a.name,a.am⟩])++aV a.name (bC (aX t a.name) p a.am).2.1,0):=by
  unfold aO at h
  have hf:=of_decide_eq_true h
  unfold cy
  rw [hv,decide_eq_false (show ¬bi a.name 0 t<0 by omega)]
  simp only [Bool.not_true,cond_false]
  rw [show t.getD (ic t a.name) jh=aX t a.name from rfl,decide_eq_true hs]
  rfl
 obtain ⟨i,hi,e1,e2,hto⟩:=uc h ho
 have hp:p∈aF t:=by
  unfold aF
  rw [ct,fR]
  exact ⟨_,hq.1,(dA (aK (cA hv hq.1)) p).2 (by unfold fu;rw [bo.2 h0];simp)⟩
 have hst:TStep t (cy t p a).1 p a.name:=by rw [e];exact hto.step hv e2 (.inr (.inl hp))
 have hq2:aX (cy t p a).1 a.name=(bC (aX t a.name) p a.am).1:=by
  have:=hst.nm
  rw [e] at this ⊢
  exact ud h this
 exact ⟨e,hst,by rw [hq2];exact h1,by rw [hq2];exact h2⟩
theorem AG {t:List Qu} {p:Pr} {a:Tm} {prio:Int} (hv:df t=true) (h:aO t a.name=true) (hvp:js p=true) (hr:0≤prio∧prio≤7) (hf:aD (aX t a.name).res a.am=true) (hw:ap (aX t a.name) p=none)
  (hl:aq (aX t a.name).holds p≠⟨0,0⟩∨(aX t a.name).holds.length+(aX t a.name).waits.length<8) (hp:(aF t).length≤7∨p∈aF t) :
  bJ t p a prio=(t.set (ic t a.name) (bK (aX t a.name) p a.am prio).1,aV a.name (bK (aX t a.name) p a.am prio).2.1,0)∧TStep t (bJ t p a prio).1 p a.name∧ClOut (aX t a.name) (aX (bJ t p a prio).1 a.name) p a.am prio:=by
 have hq:=dg h
 have hs:=vU (cA hv hq.1) hvp hr hf hw hl
 have ho:=xF hs
 have e:bJ t p a prio=(t.set (ic t a.name) (bK (aX t a.name) p a.am prio).1,aV a.name (bK (aX t a.name) p a.am prio).2.1,0):=by
  unfold aO at h
  have hf:=of_decide_eq_true h
  have hc:(decide ((aF t).length=8) && !decide (p∈aF t))=false:=by
   rcases hp with hp|hp
   ·rw [decide_eq_false (by omega)];rfl
   ·rw [decide_eq_true hp];simp
  unfold bJ
  rw [hv,decide_eq_false (show ¬bi a.name 0 t<0 by omega),hc]
  simp only [Bool.not_true,cond_false]
  rw [show t.getD (ic t a.name) jh=aX t a.name from rfl,decide_eq_true hs]
  rfl
 obtain ⟨i,hi,e1,e2,hto⟩:=uc h ho.out
 have hst:TStep t (bJ t p a prio).1 p a.name:=by
  rw [e]
  refine hto.step hv e2 ?_
  rcases hp with hp|hp
  ·exact .inl hp
  ·exact .inr (.inl hp)
 have hq2:aX (bJ t p a prio).1 a.name=(bK (aX t a.name) p a.am prio).1:=by
  have:=hst.nm
  rw [e] at this ⊢
  exact ud h this
 exact ⟨e,hst,by rw [hq2];exact ho⟩
theorem He {B:List Bool} {i:Nat} (hi:i<B.length):(B.take i++List.replicate (B.length-i) false).set i B[i]=B.take (i+1)++List.replicate (B.length-(i+1)) false:=by
 have h1:(B.take i).length=i:=by simp;omega
 rw [List.set_append_right _ _ (by omega),h1,Nat.sub_self,show B.length-i=(B.length-(i+1))+1 by omega,List.replicate_succ,List.set_cons_zero,List.take_succ_eq_append_getElem hi,List.append_assoc]
 rfl
theorem IT {B:List Bool} {i:Nat} (hi:i<B.length) (h:B[i]=false):B.take (i+1)++List.replicate (B.length-(i+1)) false=B.take i++List.replicate (B.length-i) false:=by
 rw [List.take_succ_eq_append_getElem hi,h,show B.length-i=(B.length-(i+1))+1 by omega,List.replicate_succ,List.append_assoc]
 rfl
theorem wk (d:Nat) (x:Ex) {L:List Tm} (h:cj x=L):FSpec prog 75 [x.a d] [] [] (.c (.sl bV L)) []:=h▸E5 d x
theorem dN (x:Ex):(cj x).length≤8:=by
 cases hv:ib x with
 | false=>rw [pw hv];simp
 | true=>exact (ni hv).2.2.1
theorem CD (d:Nat) (t:List Qu) (p:Pr) (x:Ex):FSpec prog 74 [.one (.sl dt t),p.a,x.a d] [] [] (.c (.sl cU (bd t p x))) []:=by
 refine aS func74 ?_
 have hmk:prog.underlying 68=some (.slice 4):=underlying68
 have hib:(prog.info? 4).map (fun i=>(i.zero,i.size,i.bytes))=some (some (.bool false),1,1):=by kernel_rfl
 have h8:=dN x
 obtain ⟨L,hL⟩:∃L,cj x=L:=⟨_,rfl⟩
 obtain ⟨B,hB⟩:∃B,B=bd t p x:=⟨_,rfl⟩
 have hBl:B.length=L.length:=by rw [hB];simp [bd,hL]
 have hBg:∀i (h:i<L.length),B[i]'(by omega)=(aO t L[i].name && bb (aX t L[i].name).res (aq (aX t L[i].name).holds p) L[i].am):=by
  intro i h
  simp only [hB,bd,hL,List.getElem_map]
 rw [hL] at h8
 rw [←hB]
 clear hB
 repeat' (first
  | refine ah ?_ ?_
  | refine aa 9 rfl (cC [] (wk d x hL) ?_)
  | (refine aa 20 rfl ?_;refine bg (km (E:=cU) (y0:=false) hmk hib rfl (by decide) rfl (fun _ _=>rfl) rfl rfl rfl rfl (by first|omega|simp)) rfl rfl rfl ?_)
  | refine af ?_
  | exact ai|refine ae fun hb=>?_)
 refine aj (fun i=>i≤L.length) (fun i=>bH [4,5,1000] [(0,.c (.sl dt t)),(4,.c (.ptr 4 0)),(7,.c (.sl bV L)),(8,.c (.own 1000)),(9,.i i)] [(4,.box 35 [.sc (.int .i64 p.site),.sc (.int .i64 p.inc),.sc (.int .i64 p.num)]),(1000,.arr 4 cU (B.take i++List.replicate (B.length-i) false))]) (fun i=>L.length-i) 0 (Nat.zero_le _) (by rw [List.take_zero,List.nil_append,Nat.sub_zero,hBl];exact ao (qf [(1000,15)])) ?_
 intro i hi
 have hol:(B.take i++List.replicate (B.length-i) false).length=L.length:=by simp;omega
 by_cases hlt:i<L.length
 ·have hb1:=hBg i hlt
  obtain ⟨a,ha⟩:∃a,L[i]=a:=⟨_,rfl⟩
  have hga:L[i]? = some a:=by rw [List.getElem?_eq_getElem hlt,ha]
  rw [ha] at hb1
  by_cases hf:bi a.name 0 t<0
  ·have hno:=IT (B:=B) (i:=i) (by omega) (by rw [hb1,show aO t a.name=false by simp [aO];omega];rfl)
   repeat' (first
    | refine ah ?_ ?_
    | refine aa 9 rfl (cB [] (xM t a.name) ?_)
    | refine af ?_
    | exact ai|refine ae fun hb=>?_)
   refine ⟨i+1,by omega,by omega,?_⟩
   rw [hno]
   exact ao (qf [])
  ·obtain ⟨j,hj,hF,hq,hx⟩:=eK hf
   have hst:=He (B:=B) (i:=i) (by omega)
   rw [hb1,show aO t a.name=true by simp [aO,Int.not_lt.1 hf],Bool.true_and,show aX t a.name=t[j] from hq] at hst
   repeat' (first
    | refine ah ?_ ?_
    | (refine aa 9 rfl ?_;first
     | (refine cB [] (yW t a.name hF) ?_)
     | (refine cB [] (CA t[j] p) ?_)
     | (refine cB [] (fM t[j].res (aq t[j].holds p) a.am) ?_))
    | refine af ?_
    | (refine aa 4 rfl ?_;refine bc (aB (z:=bb t[j].res (aq t[j].holds p) a.am) rfl rfl rfl rfl (by first|assumption|exact List.getElem?_eq_getElem (by omega)) rfl rfl rfl rfl (Nat.le_of_ble_eq_true rfl) rfl rfl) rfl rfl rfl ?_)
    | exact ai|refine ae fun hb=>?_)
   refine ⟨i+1,by omega,by omega,?_⟩
   rw [←hst]
   exact ao (qf [])
 ·have e:B.take i++List.replicate (B.length-i) false=B:=by rw [List.take_of_length_le (by omega),show B.length-i=0 by omega];simp
  rw [e]
  repeat' (first
   | refine ah ?_ ?_
   | refine af ?_
   | exact ai|refine ae fun hb=>?_)
  refine aE (qf []) ?_;exact ab
instance:Dp de:=eJ _ _ _ _ _
instance:ST prog de 22 55 40:=⟨ElTB.mk' underlying22 (.agg #[.string { data:=#[] },.int .i64 0,.int .i64 0,.int .i64 0]) 4 40 (by kernel_rfl) rfl rfl⟩
def bU (t:List Qu):List Rs:=t.map (·.res)
theorem CE (t:List Qu) (hl:t.length≤100000):FSpec prog 72 [.one (.sl dt t)] [] [] (.c (.sl de (bU t))) []:=by
 refine aS func72 ?_
 repeat' (first
  | refine ah ?_ ?_
  | refine af ?_
  | exact ai|refine ae fun hb=>?_)
 refine b8 3 1000 55 de rfl rfl rfl ?_
 refine aj (fun i=>i≤t.length) (fun i=>bH [1000] [(0,.c (.sl dt t)),(3,.c (.own 1000)),(4,.i i)] [(1000,.arr 55 de (bU (t.take i)))]) (fun i=>t.length-i) 0 (Nat.zero_le _) (by exact ao (qf [])) ?_
 intro i hi
 have hlen:(bU (t.take i)).length=i:=by simp [bU,Nat.min_eq_left hi]
 repeat' (first
  | refine ah ?_ ?_
  | (refine aa 8 rfl ?_;refine bg (aw rfl rfl (aL rfl rfl) (aP [(t[i]'(by omega)).res] rfl rfl rfl rfl) rfl aR aR) rfl rfl rfl ?_)
  | refine af ?_
  | exact ai|refine ae fun hb=>?_)
 ·refine ⟨i+1,by omega,by omega,?_⟩
  have e:bU (t.take (i+1))=bU (t.take i)++[(t[i]'(by omega)).res]:=by
   unfold bU
   rw [List.take_succ_eq_append_getElem (by omega),List.map_append]
   rfl
  rw [e]
  exact ao (qf [(1000,18)])
 ·have e:bU (t.take i)=bU t:=by rw [List.take_of_length_le (by omega)]
  rw [←e]
  refine aE (qf []) ?_;exact ab
def Kv (w:Wk) (a b:Nat):List D:=[.sc (.int .i64 w.c.now),.sl dt w.c.queues,.ocut a,.own b]
def HI (d:Nat) (w:Wk):List (Nat×Box):=[(0,.box 89 (Kv w 1 2)),(1,.arr 63 (fh d) w.c.procs),(2,.arr 67 i7 w.ev)]
def HO (d:Nat) (w:Wk):List (Nat×Option Box):=[(0,some (.box 89 (Kv w 3 4))),(3,some (.arr 63 (fh d) w.c.procs)),(4,some (.arr 67 i7 w.ev)),(1,none),(2,none)]
abbrev ov:V0:=.one (.ptr 0 0)
abbrev Bk (n:Int):V0:=.one (.sc (.int .i64 n))
theorem gf {w:Wk} {i:Nat} {x:Pc} (h:w.c.procs[i]? = some x):w.pc i=x:=by unfold Wk.pc;rw [List.getD_eq_getElem?_getD,h];rfl
theorem gJ {α:Type} {l:List α} {i:Nat} (h:i<l.length) (y:α):(l.set i y)[i]? = some y:=by simp [h]
def JX:Option Nat→Int
 | some i=>i
 | none=>-1
theorem qk {n:ByteArray}:∀{acc:List ByteArray} {kk:Nat},kk≤acc.length→(∀m∈acc.drop kk,iM n m=true)→(∀j (h:j<acc.length),j<kk→iM n acc[j]=false)→gl n acc=acc.take kk++n :: acc.drop kk
 | [],kk,_,_,_=>by simp [gl]
 | m :: l,0,_,h1,_=>by have:=h1 m (by simp);simp [gl,this]
 | m :: l,kk+1,hk,h1,h2=>by
  have h3:=h2 0 (by simp) (by omega)
  have h4:=qk (kk:=kk) (acc:=l) (by simpa using hk) (by simpa using h1) (fun j hj hjk=>by have:=h2 (j+1) (by simpa using hj) (by omega);simpa using this)
  simp at h3
  simp [gl,h3,h4]
theorem E7 {n:ByteArray} {acc:List ByteArray} {kk:Nat} (ha:lQ acc) (hk:kk≤acc.length) (h1:∀m∈acc.drop kk,iM n m=true) (h2:∀j (h:j<acc.length),j+1=kk→iM n acc[j]=false):gl n acc=acc.take kk++n :: acc.drop kk:=by
 refine qk hk h1 fun j hj hjk=>?_
 rcases Nat.lt_or_ge (j+1) kk with h|h
 ·cases hc:iM n acc[j] with
  | false=>rfl
  | true =>
   have h3:=h2 (kk-1) (by omega) (by omega)
   have h4:=(List.pairwise_iff_getElem.1 ha) j (kk-1) hj (by omega) (by omega)
   rw [fC hc h4] at h3
   cases h3
 ·exact h2 j hj (by omega)
theorem i9 (acc:List ByteArray) (e:En) (l:List En):c5 acc (e :: l)=c5 (bif dB e.name acc then acc else gl e.name acc) l:=rfl
theorem sH (n m:ByteArray) (l:List ByteArray):dB n (m :: l)=(m.toList == n.toList || dB n l):=rfl
theorem wl {n:ByteArray}:∀{l:List ByteArray},dB n l=false→n ∉ l
 | [],_=>by simp
 | m :: l,h=>by
  rw [sH,Bool.or_eq_false_iff] at h
  intro hm
  rcases List.mem_cons.1 hm with rfl|hm
  ·have h:=h.1;simp at h
  ·exact wl h.2 hm
theorem iv (n:ByteArray):∀l:List ByteArray,(gl n l).length=l.length+1
 | []=>rfl
 | m :: l=>by
  unfold gl
  cases iM n m with
  | true=>rfl
  | false=>simp [iv n l]
theorem E8:ElTB prog q7 158 9 16:=ElTB.mk' underlying158 (.string ⟨#[]⟩) 1 16 (by kernel_rfl) rfl rfl
instance:ST prog q7 158 9 16:=⟨E8⟩
theorem xO (l:List En) (hl:l.length≤100000):FSpec prog 136 [.one (.sl jP l)] [] [] (.c (.sl q7 (bE l))) []:=by
 refine aS func136 ?_
 repeat' (first
  | refine ah ?_ ?_
  | refine af ?_
  | exact ai|refine ae fun hb=>?_)
 refine b8 3 1000 9 q7 rfl rfl rfl ?_
 refine aj (fun x:Nat×List ByteArray=>x.1≤l.length∧x.2.length≤x.1∧lQ x.2∧c5 x.2 (l.drop x.1)=bE l) (fun x=>bH [1000] [(0,.c (.sl jP l)),(3,.c (.own 1000)),(4,.i x.1)] [(1000,.arr 9 q7 x.2)]) (fun x=>l.length-x.1) (0,[]) ⟨Nat.zero_le _,Nat.le_refl _,by simp [lQ],rfl⟩ (by exact ao (qf [])) ?_
 rintro ⟨i,acc⟩ ⟨hi,hal,hasc,hs⟩
 dsimp only at *
 by_cases hlt:i<l.length
 case neg =>
  have e:acc=bE l:=by rw [←hs,List.drop_eq_nil_of_le (by omega)];rfl
  repeat' (first
   | refine ah ?_ ?_
   | refine af ?_
   | exact ai|refine ae fun hb=>?_)
  rw [←e]
  refine aE (qf []) ?_;exact ab
 rw [List.drop_eq_getElem_cons hlt,i9] at hs
 obtain ⟨n,hn⟩:∃n,l[i].name=n:=⟨_,rfl⟩
 rw [hn] at hs
 repeat' (first
  | refine ah ?_ ?_
  | refine af ?_
  | exact ai|refine ae fun hb=>?_)
 refine aj (fun x:Nat×Bool=>x.1≤acc.length∧dB n acc=(x.2 || dB n (acc.drop x.1))) (fun x=>bH [1000] [(0,.c (.sl jP l)),(3,.c (.own 1000)),(4,.i i),(5,.b x.2),(6,.i x.1)] [(1000,.arr 9 q7 acc)]) (fun x=>acc.length-x.1) (0,false) ⟨Nat.zero_le _,rfl⟩ (by exact ao (qf [])) ?_
 rintro ⟨k,is⟩ ⟨hk,hh⟩
 dsimp only at *
 by_cases hkl:k<acc.length
 ·rw [List.drop_eq_getElem_cons hkl,sH] at hh
  repeat' (first
   | refine ah ?_ ?_
   | refine af ?_
   | exact ai|refine ae fun hb=>?_)
  ·refine ⟨(k+1,true),⟨by dsimp only;omega,by dsimp only;rw [hh,hb];simp⟩,by dsimp only;omega,?_⟩
   exact ao (qf [])
  ·refine ⟨(k+1,acc[k].toList == l[i].name.toList),⟨by dsimp only;omega,by dsimp only;rw [hh,hb,hn];simp⟩,by dsimp only;omega,?_⟩
   exact ao (qf [])
 have hh2:dB n acc=is:=by rw [hh,List.drop_eq_nil_of_le (by omega)];simp [dB]
 clear hh
 cases is with
 | true =>
  rw [hh2] at hs
  repeat' (first
   | refine ah ?_ ?_
   | refine af ?_
   | exact ai|refine ae fun hb=>?_)
  refine ⟨(i+1,acc),⟨by dsimp only;omega,by dsimp only;omega,hasc,hs⟩,by dsimp only;omega,?_⟩
  exact ao (qf [])
 | false =>
  rw [hh2] at hs
  have hnm:=wl hh2
  have hL:(acc++[l[i].name]).length=acc.length+1:=by simp
  have e1:acc.take acc.length++n :: acc.drop acc.length=acc++[l[i].name]:=by simp [hn]
  rw [cond_false] at hs
  repeat' (first
   | refine ah ?_ ?_
   | (refine aa 8 rfl ?_;refine bg (aw rfl rfl (aL rfl rfl) (aP [l[i].name] rfl rfl rfl rfl) rfl aR aR) rfl rfl rfl ?_)
   | refine af ?_
   | exact ai|refine ae fun hb=>?_)
  refine aj (fun k=>k≤acc.length∧∀m∈acc.drop k,iM n m=true) (fun k=>bH [1000] [(0,.c (.sl jP l)),(3,.c (.own 1000)),(4,.i i),(7,.i k)] [(1000,.arr 9 q7 (acc.take k++n :: acc.drop k))]) (fun k=>k) acc.length ⟨Nat.le_refl _,by simp⟩ (by dsimp only;rw [e1];exact ao (qf [(1000,42)])) ?_
  rintro k ⟨hk,hall⟩
  have hW:(acc.take k++n :: acc.drop k).length=acc.length+1:=by simp;omega
  have hgk:(acc.take k++n :: acc.drop k)[k]? = some n:=by rw [List.getElem?_append_right (by simp;omega)];simp [Nat.min_eq_left hk]
  have hdone:(∀j (h:j<acc.length),j+1=k→iM n acc[j]=false)→gl n acc=acc.take k++n :: acc.drop k:=fun h2=>E7 hasc hk hall h2
  by_cases hk0:k=0
  ·subst hk0
   repeat' (first
    | refine ah ?_ ?_
    | refine af ?_
    | exact ai|refine ae fun hb=>?_)
   refine ⟨(i+1,gl n acc),⟨by dsimp only;omega,by dsimp only;rw [iv];omega,mx hasc hnm,hs⟩,by dsimp only;omega,?_⟩
   dsimp only
   rw [hdone (fun j _ h=>by omega)]
   exact ao (qf [])
  ·obtain ⟨m,hm⟩:∃m,acc[k-1]'(by omega)=m:=⟨_,rfl⟩
   have hgm:(acc.take k++n :: acc.drop k)[((k:Int)-1).toNat]? = some m:=by
    rw [show ((k:Int)-1).toNat=k-1 by omega,List.getElem?_append_left (by simp;omega)]
    simp [←hm,List.getElem?_take,show k-1<k by omega,show k-1<acc.length by omega]
   have e3:acc.drop (k-1)=m :: acc.drop k:=by
    rw [List.drop_eq_getElem_cons (i:=k-1) (by omega),hm,show k-1+1=k by omega]
   have e4:acc.take k=acc.take (k-1)++[m]:=by
    have:=List.take_succ_eq_append_getElem (l:=acc) (i:=k-1) (by omega)
    rw [show k-1+1=k by omega,hm] at this
    exact this
   have l1:(acc.take (k-1)).length=k-1:=by simp;omega
   have hset:((acc.take k++n :: acc.drop k).set k m).set ((k:Int)-1).toNat n=acc.take (k-1)++n :: acc.drop (k-1):=by
    rw [show ((k:Int)-1).toNat=k-1 by omega,e3,List.set_append_right _ _ (by simp;omega),e4]
    rw [show k-(acc.take (k-1)++[m]).length=0 by simp;omega,List.set_cons_zero,List.append_assoc,List.set_append_right _ _ (by omega),l1,Nat.sub_self]
    rfl
   have hW2:((acc.take k++n :: acc.drop k).set k m).length=acc.length+1:=by rw [List.length_set,hW]
   cases hc:iM n m with
   | false =>
    repeat' (first
     | refine ah ?_ ?_
     | refine af ?_
     | exact ai|refine ae fun hb=>?_)
    refine ⟨(i+1,gl n acc),⟨by dsimp only;omega,by dsimp only;rw [iv];omega,mx hasc hnm,hs⟩,by dsimp only;omega,?_⟩
    dsimp only
    rw [hdone (fun j hj h=>by rw [←hc,←hm];congr 2;omega)]
    exact ao (qf [])
   | true =>
    repeat' (first
     | refine ah ?_ ?_
     | refine af ?_
     | (refine aa 4 rfl ?_;first
      | (refine bc (aB (z:=m) rfl rfl rfl rfl (by first|assumption|exact List.getElem?_eq_getElem (by omega)) rfl rfl rfl rfl (Nat.le_of_ble_eq_true rfl) rfl rfl) rfl rfl rfl ?_)
      | (refine bc (aB (z:=n) rfl rfl rfl rfl (by first|assumption|exact List.getElem?_eq_getElem (by omega)) rfl rfl rfl rfl (Nat.le_of_ble_eq_true rfl) rfl rfl) rfl rfl rfl ?_))
     | exact ai|refine ae fun hb=>?_)
    refine ⟨k-1,⟨by omega,?_⟩,by omega,?_⟩
    ·rw [e3]
     intro y hy
     rcases List.mem_cons.1 hy with rfl|hy
     ·exact hc
     ·exact hall y hy
    ·rw [←hset]
     exact ao (qf [])
def fF (s:List Sv) (i:Nat):Int:=if i=0 then 0 else (s[i-1]?.map (·.at_)).getD 0
theorem E9 (l:List En) (s:List Sv):FSpec prog 63 [.ag [.sl jP l,.sl lw s]] [] [] (.b (jk l s)) []:=by
 refine aS func63 ?_
 obtain ⟨b,hB⟩:∃b,jk l s=b:=⟨_,rfl⟩
 rw [hB]
 refine aH (fun c ρ a w hr=>cR (t:=0) (i:=0) hr rfl rfl) (fun hl0_0=>?_)
 refine aH (fun c ρ a w hr=>cR (t:=0) (i:=1) hr rfl rfl) (fun hl0_1=>?_)
 by_cases h72:l.length≤72
 case neg =>
  obtain rfl:b=false:=by rw [←hB];simp [jk,h72]
  repeat' (first
   | refine ah ?_ ?_
   | refine af ?_
   | exact ai|refine ae fun hb=>?_
   | (refine aE (qf []) ?_;exact ab))
 by_cases h4:s.length≤4
 case neg =>
  obtain rfl:b=false:=by rw [←hB];simp [jk,h4]
  repeat' (first
   | refine ah ?_ ?_
   | refine af ?_
   | exact ai|refine ae fun hb=>?_
   | (refine aE (qf []) ?_;exact ab))
 repeat' (first
  | refine ah ?_ ?_
  | refine af ?_
  | exact ai|refine ae fun hb=>?_)
 refine aj (fun i=>i≤l.length∧fx (l.take i) (l.drop i)=fx [] l) (fun i=>bH [1] [(1,.c (.ptr 1 0)),(3,.i i)] [(1,.box 61 [.sl jP l,.sl lw s])]) (fun i=>l.length-i) 0 ⟨Nat.zero_le _,by simp⟩ (by exact ao (qf [])) ?_
 rintro i ⟨hi,hs⟩
 by_cases hlt:i<l.length
 ·obtain ⟨e,he⟩:∃e,l[i]=e:=⟨_,rfl⟩
  have hge:l[i]? = some e:=by rw [List.getElem?_eq_getElem hlt,he]
  have hst:fx [] l=(co e.name.toList && decide (e.before=az (l.take i) e.name) && cO e.before e.after && fx (l.take (i+1)) (l.drop (i+1))):=by
   rw [←hs,List.drop_eq_getElem_cons hlt,he,List.take_succ_eq_append_getElem hlt,he]
   rfl
  by_cases hok:co e.name.toList=true∧e.before=az (l.take i) e.name∧cO e.before e.after=true
  ·obtain ⟨k1,k2,k3⟩:=hok
   repeat' (first
    | refine ah ?_ ?_
    | (refine aa 9 rfl ?_;first
     | (refine cB [] (ua e.name) ?_)
     | (refine cB [] (t7 (l.take i) e.name) ?_)
     | (refine cB [] (Cy e.before e.after) ?_))
    | refine af ?_
    | exact ai|refine ae fun hb=>?_)
   refine ⟨i+1,⟨by omega,?_⟩,by omega,?_⟩
   ·rw [hst,k1,k3];simp [k2]
   ·exact ao (qf [])
  ·obtain rfl:b=false:=by
    rw [←hB]
    have:fx [] l=false:=by
     rw [hst]
     cases h1:co e.name.toList with
     | false=>rfl
     | true =>
      cases h3:cO e.before e.after with
      | false=>simp
      | true =>
       have:e.before≠az (l.take i) e.name:=fun h=>hok ⟨h1,h,h3⟩
       simp [this]
    simp [jk,this]
   have hok1:co e.name.toList=true→e.before=az (l.take i) e.name→cO e.before e.after=true→False:=fun a b c=>hok ⟨a,b,c⟩
   clear hok
   repeat' (first
    | refine ah ?_ ?_
    | (refine aa 9 rfl ?_;first
     | (refine cB [] (ua e.name) ?_)
     | (refine cB [] (t7 (l.take i) e.name) ?_)
     | (refine cB [] (Cy e.before e.after) ?_))
    | refine af ?_
    | exact ai|(refine ae fun hb=>?_;first|(exact (hok1 (by assumption) (by assumption) (by assumption)).elim)|skip)
    | (refine aE (qf []) ?_;exact ab))
 have hE:fx [] l=true:=by rw [←hs,List.drop_eq_nil_of_le (by omega)];rfl
 by_cases h8:(bE l).length≤8
 case neg =>
  obtain rfl:b=false:=by rw [←hB];simp [jk,h8]
  repeat' (first
   | refine ah ?_ ?_
   | refine aa 9 rfl (cC [] (xO l (by omega)) ?_)
   | refine af ?_
   | exact ai|refine ae fun hb=>?_
   | (refine aE (qf []) ?_;exact ab))
 repeat' (first
  | refine ah ?_ ?_
  | refine aa 9 rfl (cC [] (xO l (by omega)) ?_)
  | refine af ?_
  | exact ai|refine ae fun hb=>?_)
 refine aj (fun i=>i≤s.length∧li s l.length i (fF s i) (s.drop i)=li s l.length 0 0 s) (fun i=>bH [1] [(1,.c (.ptr 1 0)),(5,.i i)] [(1,.box 61 [.sl jP l,.sl lw s])]) (fun i=>s.length-i) 0 ⟨Nat.zero_le _,rfl⟩ (by exact ao (qf [])) ?_
 clear hs hi hlt
 rintro j ⟨hj,hs⟩
 have hBB:b=li s l.length 0 0 s:=by rw [←hB];simp [jk,h72,h4,hE,h8]
 by_cases hlt:j<s.length
 case neg =>
  obtain rfl:b=true:=by rw [hBB,←hs,List.drop_eq_nil_of_le (by omega)];rfl
  repeat' (first
   | refine ah ?_ ?_
   | refine af ?_
   | exact ai|refine ae fun hb=>?_
   | (refine aE (qf []) ?_;exact ab))
 obtain ⟨x,hx⟩:∃x,s[j]=x:=⟨_,rfl⟩
 have hgx:s[j]? = some x:=by rw [List.getElem?_eq_getElem hlt,hx]
 have hst:li s l.length 0 0 s=(decide (1≤x.label) && decide (x.label≤99) && decide (0≤x.at_) && decide (x.at_≤l.length) && decide (fF s j≤x.at_) && decide (aT x.label 0 s=(j:Int)) && li s l.length (j+1) x.at_ (s.drop (j+1))):=by
  rw [←hs,List.drop_eq_getElem_cons hlt,hx]
  rfl
 have hnx:fF s (j+1)=x.at_:=by simp [fF,hgx]
 by_cases hok:(1≤x.label∧x.label≤99)∧(0≤x.at_∧x.at_≤l.length)∧fF s j≤x.at_∧aT x.label 0 s=(j:Int)
 ·obtain ⟨⟨k1,k2⟩,⟨k3,k4⟩,k5,k6⟩:=hok
  have hgo:li s l.length (j+1) (fF s (j+1)) (s.drop (j+1))=li s l.length 0 0 s:=by rw [hst,hnx];simp [k1,k2,k3,k4,k5,k6]
  rcases Nat.eq_zero_or_pos j with h0|h0
  ·subst h0
   repeat' (first
    | refine ah ?_ ?_
    | refine aa 9 rfl (cB [] (t8 s x.label) ?_)
    | refine af ?_
    | exact ai|refine ae fun hb=>?_)
   refine ⟨0+1,⟨by omega,hgo⟩,by omega,?_⟩
   exact ao (qf [])
  ·obtain ⟨y,hy⟩:∃y,s[((j:Int)-1).toNat]? = some y:=⟨_,List.getElem?_eq_getElem (by omega)⟩
   have hp:fF s j=y.at_:=by
    have e:((j:Int)-1).toNat=j-1:=by omega
    rw [e] at hy
    simp [fF,hy,show j≠0 by omega]
   repeat' (first
    | refine ah ?_ ?_
    | refine aa 9 rfl (cB [] (t8 s x.label) ?_)
    | refine af ?_
    | exact ai|refine ae fun hb=>?_)
   refine ⟨j+1,⟨by omega,hgo⟩,by omega,?_⟩
   exact ao (qf [])
 ·have hok1:1≤x.label→x.label≤99→0≤x.at_→x.at_≤l.length→fF s j≤x.at_→aT x.label 0 s=(j:Int)→False:=fun a b c d e f=>hok ⟨⟨a,b⟩,⟨c,d⟩,e,f⟩
  obtain rfl:b=false:=by
   rw [hBB,hst]
   cases hh:(decide (1≤x.label) && decide (x.label≤99) && decide (0≤x.at_) && decide (x.at_≤l.length) && decide (fF s j≤x.at_) && decide (aT x.label 0 s=(j:Int))) with
   | false=>rfl
   | true =>
    simp only [Bool.and_eq_true,decide_eq_true_eq] at hh
    exact (hok1 hh.1.1.1.1.1 hh.1.1.1.1.2 hh.1.1.1.2 hh.1.1.2 hh.1.2 hh.2).elim
  clear hok
  rcases Nat.eq_zero_or_pos j with h0|h0
  ·subst h0
   have hp:fF s 0=0:=rfl
   repeat' (first
    | refine ah ?_ ?_
    | refine aa 9 rfl (cB [] (t8 s x.label) ?_)
    | refine af ?_
    | exact ai|(refine ae fun hb=>?_;first|(exact (hok1 (by omega) (by omega) (by omega) (by omega) (by omega) (by omega)).elim)|skip)
    | (refine aE (qf []) ?_;exact ab))
  ·obtain ⟨y,hy⟩:∃y,s[((j:Int)-1).toNat]? = some y:=⟨_,List.getElem?_eq_getElem (by omega)⟩
   have hp:fF s j=y.at_:=by
    have e:((j:Int)-1).toNat=j-1:=by omega
    rw [e] at hy
    simp [fF,hy,show j≠0 by omega]
   repeat' (first
    | refine ah ?_ ?_
    | refine aa 9 rfl (cB [] (t8 s x.label) ?_)
    | refine af ?_
    | exact ai|(refine ae fun hb=>?_;first|(exact (hok1 (by omega) (by omega) (by omega) (by omega) (by omega) (by omega)).elim)|skip)
    | (refine aE (qf []) ?_;exact ab))
end Go.Proofs.YtjndcdcbjidocaaGreatDoor
