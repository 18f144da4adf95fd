/- Part 18 of 35 of the proof of centralNew_holds (no condition). -/
import Derived.Test.YtjndcdcbjidocaaGreatDoorK17
import Derived.Laws.Cover1
import Derived.RangeFuncNested
import Derived.RangeFuncBox
import Derived.RangeFuncLeaves
set_option linter.unusedVariables false
set_option linter.unusedSimpArgs false
set_option maxRecDepth 100000
set_option maxHeartbeats 64000000
namespace Go.Proofs.YtjndcdcbjidocaaGreatDoor
open Go.RowKit Go.Proofs.Tryz
theorem nI (l:List Wt) (p:Pr):FSpec prog 301 [.one (.sl eZ l),p.a] [] [] (.i (dh l p)) []:=by
 obtain ⟨v,hv⟩:∃v,dh l p=v:=⟨_,rfl⟩
 rw [hv]
 refine aS func301 ?_
 refine aH (fun c ρ a w hr=>bh (t:=0) hr rfl) (fun hl0=>?_)
 repeat' (first
  | refine ah ?_ ?_
  | refine af ?_
  | exact ai|refine ae fun hb=>?_)
 refine aj (fun i=>i≤l.length∧f4 p i (l.drop i)=v) (fun i=>bH [3] [(3,.c (.ptr 3 0)),(7,.c (.sl eZ l)),(8,.i l.length),(9,.i i)] [(3,.box 35 [.sc (.int .i64 p.site),.sc (.int .i64 p.inc),.sc (.int .i64 p.num)])]) (fun i=>l.length-i) 0 ⟨Nat.zero_le _,hv⟩ (by exact ao (qf [])) ?_
 rintro i ⟨hi,hs⟩
 by_cases hlt:i<l.length
 ·rw [List.drop_eq_getElem_cons hlt,dQ] at hs
  repeat' (first
   | refine ah ?_ ?_
   | refine af ?_
   | exact ai|refine ae fun hb=>?_)
  ·refine dD ?_
   rw [←hs];simp [*]
  ·refine ⟨i+1,⟨by omega,by rw [←hs];simp [*]⟩,by omega,?_⟩
   exact ao (qf [])
 ·rw [List.drop_eq_nil_of_le (by omega)] at hs
  repeat' (first
   | refine ah ?_ ?_
   | refine af ?_
   | exact ai|refine ae fun hb=>?_)
  refine dD ?_
  rw [←hs];rfl
theorem Hh (a:Am):bI a=(aD ⟨⟨#[]⟩,1,1,0⟩ a || aD ⟨⟨#[]⟩,2,8,0⟩ a):=by
 simp [bI,aD,a7]
theorem gL (x:Wt):FSpec prog 323 [x.a] [] [] (.b (pe x)) []:=by
 unfold pe
 rw [Hh]
 refine aS func323 ?_
 repeat' (first
  | refine ah ?_ ?_
  | (refine aa 9 rfl ?_;first
   | (refine cB [] (fJ x.proc) ?_)
   | (refine cB [] (dK ⟨⟨#[]⟩,1,1,0⟩ x.am) ?_)
   | (refine cB [] (dK ⟨⟨#[]⟩,2,8,0⟩ x.am) ?_))
  | refine af ?_
  | exact ai|refine ae fun hb=>?_)
 all_goals (refine dD ?_;simp [*])
theorem oF (l:List Wt):FSpec prog 302 [.one (.sl eZ l)] [] [] (.b (eh l)) []:=by
  obtain ⟨v,hv⟩:∃v,eh l=v:=⟨_,rfl⟩
  rw [hv]
  unfold eh at hv
  refine aS func302 ?_
  refine aH (fun c ρ a w hr=>bh (t:=0) hr rfl) (fun hl0=>?_)
  by_cases h8:8<l.length
  · rw [decide_eq_false (by omega)] at hv
    obtain rfl:false=v:=hv
    repeat' (first
      | refine ah ?_ ?_
      | refine af ?_
      | exact ai|refine ae fun hb=>?_
      | (refine aE (qf []) ?_;exact ab))
  rw [decide_eq_true (by omega),Bool.true_and] at hv
  repeat' (first
    | refine ah ?_ ?_
    | refine af ?_
    | exact ai|refine ae fun hb=>?_)
  refine aj (fun i=>i≤l.length∧tm l i (l.drop i)=v) (fun i=>bH [] [(0,.c (.sl eZ l)),(8,.c (.sl eZ l)),(9,.i l.length),(10,.i i)] []) (fun i=>l.length-i) 0 ⟨Nat.zero_le _,hv⟩ (by exact ao (qf [])) ?_
  rintro i ⟨hi,hs⟩
  by_cases hlt:i<l.length
  · rw [List.drop_eq_getElem_cons hlt,j6] at hs
    repeat' (first
      | refine ah ?_ ?_
      | (refine aa 9 rfl ?_;first
        | (refine cB [] (gL l[i]) ?_)
        | (refine cB [] (nI l l[i].proc) ?_))
      | refine af ?_
      | exact ai|refine ae fun hb=>?_)
    all_goals first
      | (obtain rfl:false=v:=by rw [←hs];simp [*]
         refine aE (qf []) ?_;exact ab)
      | (refine ⟨i+1,⟨by omega,by rw [←hs];simp [*]⟩,by omega,?_⟩
         exact ao (qf []))
  · rw [List.drop_eq_nil_of_le (by omega)] at hs
    obtain rfl:true=v:=hs
    repeat' (first
      | refine ah ?_ ?_
      | refine af ?_
      | exact ai|refine ae fun hb=>?_
      | (refine aE (qf []) ?_;exact ab))
theorem mT (l:List Wt) (p:Pr) (hl:l.length≤100000):FSpec prog 288 [.one (.sl eZ l),p.a] [] [] (.tup [.one (.sl eZ (b7 l p)),.one (.sc (.bool (decide ((b7 l p).length<l.length))))]) []:=by
 rw [show decide ((b7 l p).length<l.length)=decide (((b7 l p).length:Int)<(l.length:Int)) by simp]
 obtain ⟨R,hR⟩:∃R,b7 l p=R:=⟨_,rfl⟩
 rw [hR]
 refine aS func288 ?_
 repeat' (first
  | refine ah ?_ ?_
  | refine af ?_
  | exact ai|refine ae fun hb=>?_)
 refine b8 6 1000 171 eZ rfl rfl rfl ?_
 refine aj (fun x:Nat×List Wt=>x.1≤l.length∧x.2.length≤x.1∧x.2++b7 (l.drop x.1) p=R) (fun x=>bH [3,1000] [(0,.c (.sl eZ l)),(3,.c (.ptr 3 0)),(6,.c (.own 1000)),(9,.c (.sl eZ l)),(10,.i l.length),(11,.i x.1)] [(3,.box 35 [.sc (.int .i64 p.site),.sc (.int .i64 p.inc),.sc (.int .i64 p.num)]),(1000,.arr 171 eZ x.2)]) (fun x=>l.length-x.1) (0,[]) ⟨Nat.zero_le _,Nat.le_refl _,hR⟩ (by exact ao (qf [])) ?_
 rintro ⟨i,out⟩ ⟨hi,ho,hs⟩
 dsimp only at *
 by_cases hlt:i<l.length
 ·rw [List.drop_eq_getElem_cons hlt,b7,List.filter_cons] at hs
  repeat' (first
   | refine ah ?_ ?_
   | (refine aa 8 rfl ?_;refine bg (aw rfl rfl (aL rfl rfl) (aP [l[i]] rfl rfl rfl rfl) rfl aR aR) rfl rfl rfl ?_)
   | refine af ?_
   | exact ai|refine ae fun hb=>?_)
  ·refine ⟨(i+1,out++[l[i]]),⟨by dsimp only;omega,by simp;omega,by rw [←hs];simp [b7, *]⟩,by dsimp only;omega,?_⟩
   exact ao (qf [(1000,22)])
  ·refine ⟨(i+1,out),⟨by dsimp only;omega,by dsimp only;omega,by rw [←hs];simp [b7, *]⟩,by dsimp only;omega,?_⟩
   exact ao (qf [])
 ·rw [List.drop_eq_nil_of_le (by omega)] at hs
  obtain rfl:out=R:=by rw [←hs];simp [b7]
  repeat' (first
   | refine ah ?_ ?_
   | refine af ?_
   | exact ai|refine ae fun hb=>?_
   | (refine fL (qf []) ?_;exact ab))
theorem Gd (x y:Wt):FSpec prog 324 [x.a,y.a] [] [] (.i (bif decide (y.prio<x.prio) && decide (y.passed<3) then 1 else 0)) []:=by
 obtain ⟨v,hv⟩:∃v:Int,(bif decide (y.prio<x.prio) && decide (y.passed<3) then (1:Int) else 0)=v:=⟨_,rfl⟩
 rw [hv]
 refine aS func324 ?_
 repeat' (first
  | refine ah ?_ ?_
  | refine af ?_
  | exact ai|refine ae fun hb=>?_)
 all_goals (refine dD ?_;rw [←hv];simp [*])
def Ju:Wt:=⟨⟨0,0,0⟩,⟨0,0⟩,0,0⟩
theorem Df (l:List Wt) (x:Wt):FSpec prog 283 [.one (.sl eZ l),x.a] [] [] (.tup [.one (.sl eZ (lh l x).2),.one .any,.one (.sc (.int .i64 (lh l x).1))]) []:=by
 obtain ⟨⟨E,R⟩,hR⟩:∃R,lh l x=R:=⟨_,rfl⟩
 rw [hR]
 unfold lh at hR
 dsimp only
 refine aS func283 ?_
 cases h1:eh l with
 | false =>
  rw [h1] at hR
  injection hR with e1 e2;subst e1;subst e2
  repeat' (first
   | refine ah ?_ ?_
   | refine aa 9 rfl (cB [] (oF l) ?_)
   | refine af ?_
   | exact ai|(refine ae fun hb=>?_;first|(simp [h1] at hb;done)|skip)
   | (refine f9 (qf []) ?_;exact ab))
 | true =>
  rw [h1] at hR
  cases h2:pe x && decide (x.passed=0) with
  | false =>
   rw [h2] at hR
   injection hR with e1 e2;subst e1;subst e2
   repeat' (first
    | refine ah ?_ ?_
    | (refine aa 9 rfl ?_;first
     | (refine cB [] (oF l) ?_)
     | (refine cB [] (gL x) ?_))
    | refine af ?_
    | exact ai|(refine ae fun hb=>?_;first|(simp [h1] at hb;done)|skip)
    | (refine f9 (qf []) ?_;exact ab))
   all_goals (exfalso;revert h2;simp [*])
  | true =>
   rw [h2] at hR
   obtain ⟨h2,h3⟩:pe x=true∧x.passed=0:=by simpa using h2
   by_cases h4:0≤dh l x.proc
   ·rw [decide_eq_true h4] at hR
    injection hR with e1 e2;subst e1;subst e2
    repeat' (first
     | refine ah ?_ ?_
     | (refine aa 9 rfl ?_;first
      | (refine cB [] (oF l) ?_)
      | (refine cB [] (gL x) ?_)
      | (refine cB [] (nI l x.proc) ?_))
     | refine af ?_
     | exact ai|(refine ae fun hb=>?_;first|(simp [h1] at hb;done)|(simp [h2] at hb;done)|skip)
     | (refine f9 (qf []) ?_;exact ab))
   rw [decide_eq_false h4] at hR
   have h8:l.length≤8:=by have:=h1;simp [eh] at this;exact this.1
   by_cases h5:l.length=8
   ·rw [decide_eq_true h5] at hR
    injection hR with e1 e2;subst e1;subst e2
    repeat' (first
     | refine ah ?_ ?_
     | (refine aa 9 rfl ?_;first
      | (refine cB [] (oF l) ?_)
      | (refine cB [] (gL x) ?_)
      | (refine cB [] (nI l x.proc) ?_))
     | refine af ?_
     | exact ai|(refine ae fun hb=>?_;first|(simp [h1] at hb;done)|(simp [h2] at hb;done)|skip)
     | (refine f9 (qf []) ?_;exact ab))
   rw [decide_eq_false h5] at hR
   obtain ⟨rfl,hW⟩:0=E∧im l x=R:=by injection hR with e1 e2;exact ⟨e1,e2⟩
   clear hR
   have hpas:∀i (h:i<l.length),0≤l[i].passed∧l[i].passed≤3:=fun i h=>by
    have h6:=h1
    simp only [eh,Bool.and_eq_true] at h6
    have h7:=yQ h6.2 _ (List.getElem_mem h)
    simp [pe] at h7
    omega
   obtain ⟨K,hK⟩:∃K,jJ x l l.length=K:=⟨_,rfl⟩
   unfold im at hW
   rw [hK] at hW
   obtain ⟨R0,hR0⟩:∃R0,l++(List.replicate (l.length+1) Ju).drop l.length=R0:=⟨_,rfl⟩
   have hR0':R0=l.take l.length++Ju :: (l.drop l.length).map gV:=by rw [←hR0];simp
   repeat' (first
    | refine ah ?_ ?_
    | (refine aa 9 rfl ?_;first
     | (refine sx (sV rfl rfl rfl (pI rfl) (by simp) (by simp) hR0) ?_)
     | (refine cB [] (oF l) ?_)
     | (refine cB [] (gL x) ?_)
     | (refine cB [] (nI l x.proc) ?_))
    | (refine aa 20 rfl ?_;refine sx (uj (E:=eZ) (n:=l.length+1) (z:=.agg #[.int .i64 0,.int .i64 0,.int .i64 0,.int .i64 0,.int .i64 0,.int .i64 0,.int .i64 0]) Ju rfl rfl rfl rfl (by omega) (by kernel_rfl) (fun _ _=>rfl) (by decide)) ?_)
    | refine af ?_
    | exact ai|(refine ae fun hb=>?_;first|(simp [h1] at hb;done)|(simp [h2] at hb;done)|skip))
   refine aj (fun y:Nat×Wt=>y.1≤l.length∧jJ x l y.1=K) (fun y=>bH [3,1000] [(3,.c (.ptr 3 0)),(7,.c (.own 1000)),(8,.i y.1)] [(3,.box 171 [.sc (.int .i64 x.proc.site),.sc (.int .i64 x.proc.inc),.sc (.int .i64 x.proc.num),.sc (.int .i64 x.am.mode),.sc (.int .i64 x.am.units),.sc (.int .i64 x.prio),.sc (.int .i64 x.passed)]),(1000,.arr 171 eZ (l.take y.1++y.2 :: (l.drop y.1).map gV))]) (fun y=>y.1) (l.length,Ju) ⟨Nat.le_refl _,hK⟩ (by dsimp only;rw [←hR0'];exact ao (qf [(1000,35)])) ?_
   clear hR0 hR0' R0
   rintro ⟨k,X⟩ ⟨hk,hs⟩
   dsimp only at *
   obtain ⟨L,hL⟩:∃L,l.take k++X :: (l.drop k).map gV=L:=⟨_,rfl⟩
   have hLl:L.length=l.length+1:=by rw [←hL];simp;omega
   have hLk:L.set k x=l.take k++x :: (l.drop k).map gV:=by
    rw [←hL,List.set_append_right _ _ (by simp;omega)]
    simp [Nat.min_eq_left hk]
   have hgk:L[k]? = some X:=by
    rw [←hL,List.getElem?_append_right (by simp;omega)]
    simp [Nat.min_eq_left hk]
   rw [hL]
   have fin:k=K→L.set k x=R:=fun h=>by rw [hLk,←hW,h]
   have hcase:(k=0∧k=K)∨∃m,0<k∧L[((k:Int)-1).toNat]? = some m∧(0≤m.passed∧m.passed≤3)∧(L.set k m).set k (gV m)=l.take (k-1)++m :: (l.drop (k-1)).map gV∧(m.prio<x.prio∧m.passed<3∧jJ x l (k-1)=K∨¬(m.prio<x.prio∧m.passed<3)∧k=K):=by
    cases k with
    | zero=>exact .inl ⟨rfl,hs⟩
    | succ j =>
     have hj:j<l.length:=by omega
     refine .inr ⟨l[j],by omega,?_,hpas j hj,?_,?_⟩
     ·rw [show (((j+1:Nat):Int)-1).toNat=j by omega,←hL,List.getElem?_append_left (by simp;omega),List.getElem?_take,if_pos (by omega),List.getElem?_eq_getElem hj]
     ·have e1:(L.set (j+1) l[j]).set (j+1) (gV l[j])=l.take (j+1)++gV l[j] :: (l.drop (j+1)).map gV:=by
       rw [List.set_set,←hL,List.set_append_right _ _ (by simp;omega)]
       simp [Nat.min_eq_left hk]
      rw [e1,Nat.add_sub_cancel,List.drop_eq_getElem_cons hj,List.take_succ_eq_append_getElem hj,List.map_cons,List.append_assoc]
      rfl
     ·rw [jJ,List.getElem?_eq_getElem (by omega)] at hs
      dsimp only at hs
      by_cases h6:l[j].prio<x.prio∧l[j].passed<3
      ·rw [decide_eq_true h6.1,decide_eq_true h6.2] at hs
       exact .inl ⟨h6.1,h6.2,hs⟩
      ·rw [←Bool.decide_and,decide_eq_false h6] at hs
       exact .inr ⟨h6,hs⟩
   rcases hcase with ⟨h0,hkK⟩|⟨m,h0,hgm,hpm,hset,⟨h6,h7,h9⟩|⟨h6,hkK⟩⟩
   ·have hf:=fin hkK
    clear fin hL hLk hs
    repeat' (first
     | refine ah ?_ ?_
     | refine af ?_
     | (refine aa 4 rfl ?_;refine bc (aB (z:=x) rfl rfl rfl rfl hgk rfl rfl rfl rfl (Nat.le_of_ble_eq_true rfl) rfl rfl) rfl rfl rfl ?_)
     | exact ai|(refine ae fun hb=>?_;first|(simp at hb;done)|skip)
     | (rw [hf];refine f9 (qf []) ?_;exact ab))
   ·have kM:=Gd x m
    rw [decide_eq_true h6,decide_eq_true h7] at kM
    have hg2:(L.set k m)[k]? = some m:=List.getElem?_set_self (by omega)
    have hg3:(L.set k m).length=L.length:=List.length_set
    clear fin hL hLk hs hW
    repeat' (first
     | refine ah ?_ ?_
     | refine aa 9 rfl (cB [1000] (kM) ?_)
     | refine af ?_
     | (refine aa 4 rfl ?_;first
      | (refine bc (aB (z:=m) rfl rfl rfl rfl hgk rfl rfl rfl rfl (Nat.le_of_ble_eq_true rfl) rfl rfl) rfl rfl rfl ?_)
      | (refine bc (aB (z:=gV m) rfl rfl rfl rfl hg2 rfl rfl rfl rfl (Nat.le_of_ble_eq_true rfl) rfl rfl) rfl rfl rfl ?_))
     | exact ai|(refine ae fun hb=>?_;first|(exact absurd hb (by decide))|skip))
    refine ⟨(k-1,m),⟨by dsimp only;omega,h9⟩,by dsimp only;omega,?_⟩
    dsimp only
    rw [←hset]
    exact ao (qf [])
   ·have kM:=Gd x m
    rw [show (decide (m.prio<x.prio) && decide (m.passed<3))=false by rw [←Bool.decide_and,decide_eq_false h6]] at kM
    have hf:=fin hkK
    clear fin hL hLk hs hW
    repeat' (first
     | refine ah ?_ ?_
     | refine aa 9 rfl (cB [1000] (kM) ?_)
     | refine af ?_
     | (refine aa 4 rfl ?_;refine bc (aB (z:=x) rfl rfl rfl rfl hgk rfl rfl rfl rfl (Nat.le_of_ble_eq_true rfl) rfl rfl) rfl rfl rfl ?_)
     | exact ai|(refine ae fun hb=>?_;first|(exact absurd hb (by decide))|skip)
     | (rw [hf];refine f9 (qf []) ?_;exact ab))
theorem sW {w:World} {S:Nat→Prop} {A:Option Addr} {l:Ct} (h:RowsAt de w S A l) {i:Nat} (hi:i<l.length) {nm:ByteArray} {k u hm:Int} (e:l[i]=⟨nm,k,u,hm⟩) :
  ∃b off,A=some ⟨b,off,none⟩∧S b∧w.cell? ⟨b,off+i*4,none⟩=some (.string nm)∧w.cell? ⟨b,off+i*4+1,none⟩=some (.int .i64 k)∧
   w.cell? ⟨b,off+i*4+2,none⟩=some (.int .i64 u)∧w.cell? ⟨b,off+i*4+3,none⟩=some (.int .i64 hm):=by
 obtain ⟨b,off,cs,hA,hb,hr,hc⟩:=h.getx hi e
 have hr':cs=[.string nm,.int .i64 k,.int .i64 u,.int .i64 hm]:=hr
 subst hr'
 exact ⟨b,off,hA,hb,hc 0 (by decide),hc 1 (by decide),hc 2 (by decide),hc 3 (by decide)⟩
theorem wH (r:Rs):FSpec prog 97 [r.a] [] [] (.b (jr r)) [] :=
 bY (fun b W=>by kernel_rfl) rfl fun w S ρ vs _ h=>by
  match vs,h with
  | [_],⟨h1,_⟩=>rw [Rs.open h1];exact (tk _ w).mono fun _ _=>fK
theorem Dg (q:Qu):FSpec prog 184 [q.a] [] [] (.tup [(lx q).a,.one (.sc (.bool (di q).isSome))]) []:=by
 obtain ⟨r,hs,cs,ws,gn⟩:=q
 refine aS func184 ?_
 refine aH (fun c ρ a w hr=>cR (t:=0) (i:=5) hr rfl rfl) (fun hl0_5=>?_)
 refine aH (fun c ρ a w hr=>cR (t:=0) (i:=6) hr rfl rfl) (fun hl0_6=>?_)
 cases cs with
 | cons x cs =>
  have e0:(x :: cs)[(0:Int).toNat]? = some x:=rfl
  have e1:(x :: cs)[0]? = some x:=rfl
  repeat' (first
   | refine ah ?_ ?_
   | refine af ?_
   | exact ai|(refine ae fun hb=>?_;first|(simp at hb;done)|skip)
   | (refine fL (qf []) ?_;exact ab))
 | nil =>
  cases ws with
  | cons x ws =>
   have e0:(x :: ws)[(0:Int).toNat]? = some x:=rfl
   have e1:(x :: ws)[0]? = some x:=rfl
   repeat' (first
    | refine ah ?_ ?_
    | refine af ?_
    | exact ai|(refine ae fun hb=>?_;first|(simp at hb;done)|skip)
    | (refine fL (qf []) ?_;exact ab))
  | nil =>
   repeat' (first
    | refine ah ?_ ?_
    | refine af ?_
    | exact ai|(refine ae fun hb=>?_;first|(simp at hb;done)|skip)
    | (refine fL (qf []) ?_;exact ab))
theorem dZ (q:Qu) (p:Pr):FSpec prog 102 [q.a,p.a] [] [] (.v (aq q.holds p).a) []:=by
 refine aS func102 ?_
 repeat' (first
  | refine ah ?_ ?_
  | refine aa 9 rfl (cB [] (J3 q.holds p) ?_)
  | refine af ?_
  | exact ai|refine ae fun hb=>?_
  | (refine aE (qf []) ?_;exact ab))
theorem Dh (q:Qu) (h2:q.convs.length≤8) (h3:q.waits.length≤8):FSpec prog 199 [q.a] [] [] (.c (.sl eZ (q.convs++q.waits))) [] :=
 bY (fun b W=>by kernel_rfl) rfl fun w S ρ vs hS h=>by
  match vs,h with
  | [_],⟨h1,_⟩ =>
   obtain ⟨A1,A2,A3,c1,c2,c3,rfl,hq,k1,k2,k3⟩:=Qu.open h1
   exact (zT q A1 A2 A3 c1 c2 c3 w w.heap.size (hq.qf hS)  h2 h3).mono fun _ _=>wc
theorem d5 (q:Qu) (p:Pr) (h2:q.convs.length≤8) (h3:q.waits.length≤8) {v:Option Am} (hv:ap q p=v):FSpec prog 195 [q.a,p.a] [] [] (.tup [(xL v).a,.one (.sc (.bool v.isSome))]) []:=by
 unfold ap at hv
 have kO:=Dh q h2 h3
 obtain ⟨L,hL⟩:∃L,q.convs++q.waits=L:=⟨_,rfl⟩
 have hl:L.length≤16:=by rw [←hL];simp;omega
 rw [hL] at hv kO
 refine aS func195 ?_
 repeat' (first
  | refine ah ?_ ?_
  | refine aa 9 rfl (cC [] (kO) ?_)
  | refine af ?_
  | exact ai|refine ae fun hb=>?_)
 refine aj (fun i=>i≤L.length∧f5 (L.drop i) p=v) (fun i=>bH [3,4] [(3,.c (.ptr 3 0)),(4,.c (.ptr 4 0)),(9,.c (.sl eZ L)),(10,.i L.length),(11,.i i)] [i8 3 p,(4,.box 37 [.sc (.int .i64 0),.sc (.int .i64 0)])]) (fun i=>L.length-i) 0 ⟨Nat.zero_le _,hv⟩ (by exact ao (qf [])) ?_
 rintro i ⟨hi,hs⟩
 by_cases hlt:i<L.length
 ·rw [List.drop_eq_getElem_cons hlt,cr] at hs
  obtain ⟨x,hx⟩:∃x,L[i]=x:=⟨_,rfl⟩
  have hgx:L[i]? = some x:=by rw [List.getElem?_eq_getElem hlt,hx]
  rw [hx] at hs
  repeat' (first
   | refine ah ?_ ?_
   | refine af ?_
   | exact ai|refine ae fun hb=>?_)
  ·obtain rfl:some x.am=v:=by rw [←hs];simp [*]
   refine fL (qf []) ?_;exact ab
  ·refine ⟨i+1,⟨by omega,by rw [←hs];simp [*]⟩,by omega,?_⟩
   exact ao (qf [])
 ·rw [List.drop_eq_nil_of_le (by omega)] at hs
  obtain rfl:none=v:=hs
  repeat' (first
   | refine ah ?_ ?_
   | refine af ?_
   | exact ai|refine ae fun hb=>?_
   | (refine fL (qf []) ?_;exact ab))
theorem Di (q:Qu):FSpec prog 242 [q.a] [] [] (.b (Il q)) []:=by
  obtain ⟨v,hv⟩:∃v,Il q=v:=⟨_,rfl⟩
  rw [hv]
  unfold Il at hv
  refine aS func242 ?_
  refine aH (fun c ρ a w hr=>cR (t:=0) (i:=5) hr rfl rfl) (fun hl0_5=>?_)
  by_cases h8:8<q.convs.length
  · rw [decide_eq_false (by omega)] at hv
    obtain rfl:false=v:=hv
    repeat' (first
      | refine ah ?_ ?_
      | refine af ?_
      | exact ai|refine ae fun hb=>?_
      | (refine aE (qf []) ?_;exact ab))
  rw [decide_eq_true (by omega),Bool.true_and] at hv
  repeat' (first
    | refine ah ?_ ?_
    | refine af ?_
    | exact ai|refine ae fun hb=>?_)
  refine aj (fun i=>i≤q.convs.length∧tn q i (q.convs.drop i)=v) (fun i=>bH [1] [(1,.c (.ptr 1 0)),(11,.c (.sl eZ q.convs)),(12,.i q.convs.length),(13,.i i)] [(1,.box 81 q.d)]) (fun i=>q.convs.length-i) 0 ⟨Nat.zero_le _,hv⟩ (by exact ao (qf [])) ?_
  rintro i ⟨hi,hs⟩
  by_cases hlt:i<q.convs.length
  · rw [List.drop_eq_getElem_cons hlt,m9] at hs
    obtain ⟨x,hx⟩:∃x,q.convs[i]=x:=⟨_,rfl⟩
    have hgx:q.convs[i]? = some x:=by rw [List.getElem?_eq_getElem hlt,hx]
    rw [hx] at hs
    obtain ⟨h,hh⟩:∃h,aq q.holds x.proc=h:=⟨_,rfl⟩
    have kG:=dZ q x.proc
    unfold zS at hs
    rw [hh] at hs kG
    clear hv hx hh
    repeat' (first
      | refine ah ?_ ?_
      | (refine aa 9 rfl ?_;first
        | (refine cB [] (kG) ?_)
        | (refine cB [] (gg h) ?_)
        | (refine cB [] (dK q.res x.am) ?_)
        | (refine cB [] (fp q.res x.am h) ?_)
        | (refine cB [] (nI q.convs x.proc) ?_))
      | refine af ?_
      | exact ai|refine ae fun hb=>?_)
    all_goals first
      | (obtain rfl:false=v:=by rw [←hs];simp [*]
         refine aE (qf []) ?_;exact ab)
      | (refine ⟨i+1,⟨by omega,by rw [←hs];simp [*]⟩,by omega,?_⟩
         exact ao (qf []))
  · rw [List.drop_eq_nil_of_le (by omega)] at hs
    obtain rfl:true=v:=hs
    repeat' (first
      | refine ah ?_ ?_
      | refine af ?_
      | exact ai|refine ae fun hb=>?_
      | (refine aE (qf []) ?_;exact ab))
theorem Dj (q:Qu) (hh:q.holds.length≤8):FSpec prog 243 [q.a] [] [] (.b (Im q)) []:=by
  obtain ⟨v,hv⟩:∃v,Im q=v:=⟨_,rfl⟩
  rw [hv]
  unfold Im at hv
  refine aS func243 ?_
  refine aH (fun c ρ a w hr=>cR (t:=0) (i:=6) hr rfl rfl) (fun hl0_6=>?_)
  cases hP:eh q.waits && decide (q.holds.length+q.waits.length≤8) with
  | false =>
    rw [hP] at hv
    obtain rfl:false=v:=hv
    cases h1:eh q.waits with
    | false =>
      repeat' (first
        | refine ah ?_ ?_
        | refine aa 9 rfl (cB [] (oF q.waits) ?_)
        | refine af ?_
        | exact ai|(refine ae fun hb=>?_;first|(simp [h1] at hb;done)|skip)
        | (refine aE (qf []) ?_;exact ab))
    | true =>
      rw [h1,Bool.true_and,decide_eq_false_iff_not] at hP
      have w8:q.waits.length≤8:=by have:=h1;simp [eh] at this;omega
      repeat' (first
        | refine ah ?_ ?_
        | refine aa 9 rfl (cB [] (oF q.waits) ?_)
        | refine af ?_
        | exact ai|(refine ae fun hb=>?_;first|(simp [h1] at hb;done)|skip)
        | (refine aE (qf []) ?_;exact ab))
  | true =>
    rw [hP,Bool.true_and] at hv
    obtain ⟨h1,h2⟩:eh q.waits=true∧q.holds.length+q.waits.length≤8:=by simpa using hP
    repeat' (first
      | refine ah ?_ ?_
      | refine aa 9 rfl (cB [] (oF q.waits) ?_)
      | refine af ?_
      | exact ai|(refine ae fun hb=>?_;first|(simp [h1] at hb;done)|skip))
    refine aj (fun i=>i≤q.waits.length∧re q (q.waits.drop i)=v) (fun i=>bH [1] [(1,.c (.ptr 1 0)),(20,.c (.sl eZ q.waits)),(21,.i q.waits.length),(22,.i i)] [(1,.box 81 q.d)]) (fun i=>q.waits.length-i) 0 ⟨Nat.zero_le _,hv⟩ (by exact ao (qf [])) ?_
    rintro i ⟨hi,hs⟩
    by_cases hlt:i<q.waits.length
    · rw [List.drop_eq_getElem_cons hlt,na] at hs
      repeat' (first
        | refine ah ?_ ?_
        | (refine aa 9 rfl ?_;first
          | (refine cB [] (dK q.res q.waits[i].am) ?_)
          | (refine cB [] (dZ q q.waits[i].proc) ?_)
          | (refine cB [] (gg (aq q.holds q.waits[i].proc)) ?_))
        | refine af ?_
        | exact ai|refine ae fun hb=>?_)
      all_goals first
        | (obtain rfl:false=v:=by rw [←hs];simp [*]
           refine aE (qf []) ?_;exact ab)
        | (refine ⟨i+1,⟨by omega,by rw [←hs];simp [*]⟩,by omega,?_⟩
           exact ao (qf []))
    · rw [List.drop_eq_nil_of_le (by omega)] at hs
      obtain rfl:true=v:=hs
      repeat' (first
        | refine ah ?_ ?_
        | refine af ?_
        | exact ai|refine ae fun hb=>?_
        | (refine aE (qf []) ?_;exact ab))
theorem zk (q:Qu):FSpec prog 183 [q.a] [] [] (.b (g6 q)) []:=by
 have hb8:rT q.res q.holds=true→q.holds.length≤8:=fun h=>by simp [rT] at h;omega
 unfold g6
 refine aS func183 ?_
 cases hP:rT q.res q.holds with
 | false =>
  repeat' (first
   | refine ah ?_ ?_
   | (refine aa 9 rfl ?_;first
    | (refine cB [] (wH q.res) ?_)
    | (refine cB [] (oW q.res q.holds) ?_))
   | refine af ?_
   | exact ai|(refine ae fun hb=>?_;first|(simp [hP] at hb;done)|skip))
  all_goals (refine dD ?_;simp [*])
 | true =>
  repeat' (first
   | refine ah ?_ ?_
   | (refine aa 9 rfl ?_;first
    | (refine cB [] (wH q.res) ?_)
    | (refine cB [] (oW q.res q.holds) ?_)
    | (refine cB [] (Di q) ?_)
    | (refine cB [] (Dj q (hb8 hP)) ?_))
   | refine af ?_
   | exact ai|(refine ae fun hb=>?_;first|(simp [hP] at hb;done)|skip))
  all_goals (refine dD ?_;simp [*])
theorem AT (q:Qu):FSpec prog 106 [q.a] [] [] (.b (ax q)) []:=by
 obtain ⟨v,hv⟩:∃v,ax q=v:=⟨_,rfl⟩
 rw [hv]
 unfold ax at hv
 have kH:=Dg q
 obtain ⟨x,hx⟩:∃x,lx q=x:=⟨_,rfl⟩
 rw [hx] at kH
 unfold lx at hx
 refine aS func106 ?_
 cases hq:di q with
 | none =>
  rw [hq] at hv kH
  repeat' (first
   | refine ah ?_ ?_
   | (refine aa 9 rfl ?_;first
    | (refine cB [] (zk q) ?_)
    | (refine cB [] (kH) ?_))
   | refine af ?_
   | exact ai|refine ae fun hb=>?_)
  all_goals (refine dD ?_;rw [←hv];simp [*])
 | some y =>
  rw [hq] at hv kH hx
  obtain rfl:y=x:=hx
  repeat' (first
   | refine ah ?_ ?_
   | (refine aa 9 rfl ?_;first
    | (refine cB [] (zk q) ?_)
    | (refine cB [] (kH) ?_)
    | (refine cB [] (De q.res q.holds y.proc y.am) ?_))
   | refine af ?_
   | exact ai|refine ae fun hb=>?_)
  all_goals (refine dD ?_;rw [←hv];simp [*])
theorem cg (q:Qu):FSpec prog 46 [q.a] [] [] (.b (ax q)) []:=by
 refine aS func46 ?_
 repeat' (first
  | refine ah ?_ ?_
  | refine aa 9 rfl (cB [] (AT q) ?_)
  | refine af ?_
  | exact ai|refine ae fun hb=>?_
  | (refine dD ?_;rfl))
theorem Dk (l:List Pr) (hl:l.length≤1000000):FSpec prog 56 [.one (.sl eY l)] [] [] (.c (.sl eY (dj l))) [] :=
 bY (fun b W=>by kernel_rfl) rfl fun w S ρ vs hS h=>by
  match vs,h with
  | [_],⟨⟨A,c,rfl,_,r⟩,_⟩=>exact (rf A c l w (by omega) (r.lo hS)).mono fun _ _=>wc
theorem Dl (l:List Ho) (hl:l.length≤100000):FSpec prog 125 [.one (.sl ga l)] [] [0] (.c (.own 0)) [(0,some (.arr 35 eY (cw l)))]:=by
 refine aS func125 ?_
 repeat' (first
  | refine ah ?_ ?_
  | refine af ?_
  | exact ai|refine ae fun hb=>?_)
 refine b8 3 1000 35 eY rfl rfl rfl ?_
 refine aj (fun i=>i≤l.length) (fun i=>bH [1000] [(3,.c (.own 1000)),(6,.c (.sl ga l)),(7,.i l.length),(8,.i i)] [(1000,.arr 35 eY (cw (l.take i)))]) (fun i=>l.length-i) 0 (Nat.zero_le _) (by exact ao (qf [])) ?_
 intro i hi
 have hlen:(cw (l.take i)).length=i:=by simp [cw];omega
 by_cases hlt:i<l.length
 ·have e:cw (l.take (i+1))=cw (l.take i)++[l[i].proc]:=by unfold cw;rw [List.take_succ_eq_append_getElem hlt,List.map_append];rfl
  repeat' (first
   | refine ah ?_ ?_
   | (refine aa 8 rfl ?_;refine bg (aw rfl rfl (aL rfl rfl) (aP [l[i].proc] rfl rfl rfl rfl) rfl aR aR) rfl rfl rfl ?_)
   | refine af ?_
   | exact ai|refine ae fun hb=>?_)
  refine ⟨i+1,by omega,by omega,?_⟩
  rw [e]
  exact ao (qf [(1000,16)])
 ·rw [List.take_of_length_le (by omega)]
  repeat' (first
   | refine ah ?_ ?_
   | refine af ?_
   | exact ai|refine ae fun hb=>?_
   | (refine aE (qf [(0,1000)]) ?_;exact ab))
theorem Ft (q:Qu) (h2:q.convs.length≤8) (h3:q.waits.length≤8):FSpec prog 126 [q.a] [] [] (.c (.sl eY (lF q))) []:=by
 have kO:=Dh q h2 h3
 unfold lF
 obtain ⟨L,hL⟩:∃L,q.convs++q.waits=L:=⟨_,rfl⟩
 have hl:L.length≤16:=by rw [←hL];simp;omega
 rw [hL] at kO ⊢
 refine aS func126 ?_
 repeat' (first
  | refine ah ?_ ?_
  | refine aa 9 rfl (cC [] (kO) ?_)
  | refine af ?_
  | exact ai|refine ae fun hb=>?_)
 refine b8 3 1000 35 eY rfl rfl rfl ?_
 refine aj (fun i=>i≤L.length) (fun i=>bH [1000] [(3,.c (.own 1000)),(7,.c (.sl eZ L)),(8,.i L.length),(9,.i i)] [(1000,.arr 35 eY (bN (L.take i)))]) (fun i=>L.length-i) 0 (Nat.zero_le _) (by exact ao (qf [])) ?_
 intro i hi
 have hlen:(bN (L.take i)).length=i:=by simp [bN];omega
 by_cases hlt:i<L.length
 ·have e:bN (L.take (i+1))=bN (L.take i)++[L[i].proc]:=by unfold bN;rw [List.take_succ_eq_append_getElem hlt,List.map_append];rfl
  repeat' (first
   | refine ah ?_ ?_
   | (refine aa 8 rfl ?_;refine bg (aw rfl rfl (aL rfl rfl) (aP [L[i].proc] rfl rfl rfl rfl) rfl aR aR) rfl rfl rfl ?_)
   | refine af ?_
   | exact ai|refine ae fun hb=>?_)
  refine ⟨i+1,by omega,by omega,?_⟩
  rw [e]
  exact ao (qf [(1000,17)])
 ·rw [List.take_of_length_le (by omega)]
  repeat' (first
   | refine ah ?_ ?_
   | refine af ?_
   | exact ai|refine ae fun hb=>?_
   | (refine aE (qf []) ?_;exact ab))
theorem uk (q:Qu) (h1:q.holds.length≤8) (h2:q.convs.length≤8) (h3:q.waits.length≤8):FSpec prog 55 [q.a] [] [] (.c (.sl eY (eM q))) []:=by
 unfold eM
 have e1:(cw q.holds).length=q.holds.length:=by simp [cw]
 have e2:(lF q).length=q.convs.length+q.waits.length:=by simp [lF]
 refine aS func55 ?_
 repeat' (first
  | refine ah ?_ ?_
  | (refine aa 9 rfl ?_;first
   | (refine cH (qf [(0,1000)]) (Dl q.holds (by omega)) ?_)
   | (refine cC [] (Ft q h2 h3) ?_)
   | (refine cC [8] (Dk (cw q.holds++lF q) (by simp;omega)) ?_))
  | refine af ?_
  | exact ai|refine ae fun hb=>?_
  | (refine aE (qf []) ?_;exact ab))
theorem I6 (r:Rs) (h:jr r=true):FSpec prog 38 [r.a] [] [] (.tup [(⟨r,[],[],[],0⟩:Qu).a,iV 0]) []:=by
 refine aS func38 ?_
 repeat' (first
  | refine ah ?_ ?_
  | refine aa 9 rfl (cB [] (wH r) ?_)
  | refine af ?_
  | exact ai|(refine ae fun hb=>?_;first|(simp [h] at hb;done)|skip)
  | (refine fL (qf []) ?_;exact ab))
section
variable {P:Program} {o:Oper} {s:Mst}
theorem cD {f:FuncId} {xs:Array Operand} {ks:List Nat} (ho:o.op = .makeFunc (.func f) #[] xs) (hx:xs.toList.map s.ev=ks.map fun k=>.c (.ptr k 0)):LOp P o s [] ⟨.c (.clo f ks),[],[]⟩ :=
 bj fun c st ρ a w hr h1 _=>by
  have h1':xs.toList.map st.ev=ks.map fun k=>TV.c (.ptr k 0):=by
   rw [←hx]
   exact List.map_congr_left fun x hx=>h1 x (by simp [ho,Op.operands];simpa using hx)
  have key:∀(l:List Operand) (ks:List Nat),l.map st.ev=ks.map (fun k=>TV.c (.ptr k 0))→All2 (fun k u=>u=ρ k) ks (l.map a.eval)∧∀k,(∃j∈ks,j.beq k=true)→st.f k=false:=by
   intro l
   induction l with
   | nil=>intro ks h;cases ks with
    | nil=>exact ⟨trivial,fun k ⟨j,hj,_⟩=>by cases hj⟩
    | cons=>simp at h
   | cons x l ih =>
    intro ks h
    cases ks with
    | nil=>simp at h
    | cons k ks =>
     simp only [List.map_cons,List.cons.injEq] at h
     obtain ⟨i1,i2⟩:=ih ks h.2
     have hv:=hr.ev x
     rw [h.1] at hv
     obtain ⟨g,hg,hv⟩:=hv
     have hnf:st.f k=false:=hr.nf (x:=x) h.1 (by simp [TV.has,V0.has,D.has])
     refine ⟨⟨?_,i1⟩,fun k' ⟨j,hj,hb⟩=>?_⟩
     ·show a.eval x=ρ k
      rw [hv,hg]
     ·rcases List.mem_cons.1 hj with rfl|hj
      ·rw [←Nat.eq_of_beq_eq_true hb];exact hnf
      ·exact i2 k' ⟨j,hj,hb⟩
  obtain ⟨k1,k2⟩:=key _ _ h1'
  refine ⟨.func (.func f) #[] (xs.map a.eval),?_,⟨xs.toList.map a.eval,by congr 1;apply Array.toList_inj.1;simp,k1⟩,fun k hk=>k2 k ?_⟩
  ·unfold execOp
   rw [ho]
   simp [Instr.makeFunc]
  ·obtain ⟨j,hj,hb⟩:=List.any_eq_true.1 (show (D.clo f ks).has k=true from hk)
   exact ⟨j,hj,hb⟩
variable {n l:Nat}
end
section
variable {P:Program} {o:Oper} {s:Mst}
def Hi:Option Box→Bool
 | some (.box ..)=>true
 | _=>false
theorem wI {α:Type _} {β:Type _} {R:α→β→Prop}:∀{l:List α} {m:List β} {l':List α} {m':List β},All2 R l m→All2 R l' m'→All2 R (l++l') (m++m')
 | [],[],_,_,_,k=>k
 | _ :: _,_ :: _,_,_,h,k=>⟨h.1,wI h.2 k⟩
 | [],_ :: _,_,_,h,_=>h.elim
 | _ :: _,[],_,_,h,_=>h.elim
theorem AU {y:Operand} {f:FuncId} {xs:Array Operand} {ts:Array TypeId} {ar:List V0} {n:Nat} {kc:List Nat} {hin:List (Nat×Box)} {us:List Nat} {res:TV} {hout:List (Nat×Option Box)} (hs:FSpec P f ar hin us res hout) (q:Nat→Nat) (ho:o.op = .call { callee:=.value y,args:=xs,argTypes:=ts })
  (hy:s.ev y = .c (.clo f (kc.map q))) (hA:ar.drop n=kc.map fun k=>.one (.ptr k 0)) (hk:kc.all (fun k=>Hi (dy hin k))=true)
  (ha:All2 (fun x d=>s.ev x = .v (V0.ren q d)) xs.toList (ar.take n)) (hn:dU ((av hin++us).map q)=true) (hh:si s q hin):LOp P o s ((av hin).map q) ⟨res.ren q,dJ q hout,us.map q⟩:=by
 intro c st ρ a w hr h1 h2 h3 h4
 have hin':∀k b,dy hin k=some b→st.h (q k)=some (b.ren q):=fun k b hk=>by
  rw [h2 (q k) (by rw [bk];exact List.mem_map.2 ⟨k,bk.1 (cu hk).1,rfl⟩)]
  exact no hh k b (cu hk).2
 have hargs:All2 (fun d v=>(V0.ren q d).rep w (Fz c st.h ρ w) ρ v) (ar.take n) (xs.toList.map a.eval):=by
  have key:∀(l:List Operand) (m:List V0),(∀x∈l,st.ev x=s.ev x)→All2 (fun x d=>s.ev x = .v (V0.ren q d)) l m→All2 (fun d v=>(V0.ren q d).rep w (Fz c st.h ρ w) ρ v) m (l.map a.eval):=by
   intro l
   induction l with
   | nil=>intro m _ h;cases m with
    | nil=>trivial
    | cons=>exact h.elim
   | cons x l ih =>
    intro m hl h
    cases m with
    | nil=>exact h.elim
    | cons d m =>
     refine ⟨?_,ih m (fun y hy=>hl y (by simp [hy])) h.2⟩
     have:=hr.ev x
     rw [hl x (by simp),h.1] at this
     exact this
  exact key _ _ (fun x hx=>h1 x (by simp [ho,Op.operands,Call.operands];exact .inr (by simpa using hx))) ha
 have hv:=hr.ev y
 rw [h1 y (by simp [ho,Op.operands,Call.operands]),hy] at hv
 obtain ⟨vs,hv,hvs⟩:=hv
 have hcap:All2 (fun d v=>(V0.ren q d).rep w (Fz c st.h ρ w) ρ v) (ar.drop n) vs:=by
  rw [hA]
  have key:∀(l:List Nat) (m:List Value),l.all (fun k=>Hi (dy hin k))=true→All2 (fun k u=>u=ρ k) (l.map q) m→All2 (fun d v=>(V0.ren q d).rep w (Fz c st.h ρ w) ρ v) (l.map fun k=>V0.one (.ptr k 0)) m:=by
   intro l
   induction l with
   | nil=>intro m _ h;cases m with
    | nil=>trivial
    | cons=>exact h.elim
   | cons k l ih =>
    intro m hb h
    cases m with
    | nil=>exact h.elim
    | cons u m =>
     rw [List.all_cons,Bool.and_eq_true] at hb
     refine ⟨?_,ih m hb.2 h.2⟩
     have hu:u=ρ (q k):=h.1
     cases h9:dy hin k with
     | none=>rw [h9] at hb;cases hb.1
     | some b =>
      rw [h9] at hb
      have h8:=hr.hp _ _ (hin' k b h9)
      cases b with
      | box t cs =>
       obtain ⟨g,_,e,_⟩:=h8
       exact ⟨g,e,hu.trans e⟩
      | arr=>cases hb.1
      | mp=>cases hb.1
      | it=>cases hb.1
  exact key kc vs hk hvs
 have hall:All2 (fun d v=>(V0.ren q d).rep w (Fz c st.h ρ w) ρ v) ar (xs.toList.map a.eval++vs):=by
  have:=wI hargs hcap
  rwa [List.take_append_drop] at this
 have hc:=hs.ca q c st ρ a w (xs.toList.map a.eval++vs) hr (fun k k' hk hk' e=>il hn k k' hk hk' e) hall hin' fun k hk=>h3 _ (by show aI (us.map q) (q k)=true;rw [bk];exact List.mem_map.2 ⟨k,bk.1 hk,rfl⟩)
 have he:(xs.toList.map a.eval++vs).toArray=xs.map a.eval++vs.toArray:=by apply Array.toList_inj.1;simp
 rw [he] at hc
 unfold Oper.wp execOp
 simp only [ho,resolve,hv,Deferred.ofValue,invoke,Sem.run_bind,Sem.run_pure,Result.andThen_ok,Array.append_empty,Array.empty_append]
 rw [hs.en]
 refine hc.mono fun e w' ⟨v,hv,hk⟩=>?_
 subst hv
 exact hk o.dst h4
end
section
variable {P:Program} {nt:Nat} {Ks:List Nat} {s:Mst} {K:Mst→Prop} {ops:Array Oper} {draw:Bool} {o:Oper} {l:List Oper} {acc:List (List Nat×List Nat)} {t:Nat}
theorem ll {y:Operand} {f:FuncId} {xs:Array Operand} {ts:Array TypeId} {ar:List V0} {ot:Option Nat} {res:TV} {hin:List (Nat×Box)} {us:List Nat} {hout:List (Nat×Option Box)} (n:Nat) (kc:List Nat) (q:Nat→Nat) (hs:FSpec P f ar hin us res hout) (h:DA P ops draw l (((av hin).map q,av (dJ q hout)) :: acc) (s.app ot ⟨res.ren q,dJ q hout,us.map q⟩) K) (ho:o.op = .call { callee:=.value y,args:=xs,argTypes:=ts }:=by rfl) (hy:s.ev y = .c (.clo f (kc.map q)):=by rfl) (hA:ar.drop n=kc.map (fun k=>.one (.ptr k 0)):=by rfl) (hk:kc.all (fun k=>Hi (dy hin k))=true:=by rfl) (ha:All2 (fun x d=>s.ev x = .v (V0.ren q d)) xs.toList (ar.take n):=by (repeat' (first|exact trivial|refine ⟨rfl,?_⟩));first|done|fail) (hn:dU ((av hin++us).map q)=true:=by rfl) (hh:si s q hin:=by (repeat' (first|exact trivial|refine ⟨rfl,?_⟩));first|done|fail) (hd:o.dst=ot:=by first|exact (rfl:_=some _)|exact (rfl:_=none)) (hg:s.gd ops o=some true:=by rfl) (hf:(us.map q).all s.f=true:=by rfl):DA P ops draw (o :: l) acc s K:=t1 (AU hs q ho hy hA hk ha hn hh) hd hg hf h
end
theorem iG {P:Program} {o:Oper} {s:Mst} {t e:TypeId} {x:Operand} {k n:Nat} [SE P t e] (ho:o.op = .call { callee:=.builtin .len,args:=#[x],argTypes:=#[t] }) (hx:s.ev x = .c (.slb k n)):LOp P o s [] ⟨.i n,[],[]⟩ :=
 gE (ty:=0) ho fun c st ρ a w hr he _=>by
  have hv:=hr.ev x
  rw [he,hx] at hv
  obtain ⟨g,_,hv⟩:=hv
  exact ⟨_,_,hv⟩
theorem dv {P:Program} {o:Oper} {s:Mst} {t e:TypeId} {x y:Operand} {row:Bool} {n i k m:Nat} {kd:IntKind} {z:Int} (ho:o.op = .indexAddr t x y) (hx:s.ev x = .c (.slb k m)) (hy:s.ev y = .c (.sc (.int kd z))) [SE P t e] [TI P e row n] (hz:z=(i:Int)) (hi:i<m) :
  LOp P o s [] ⟨.c (.ptr k (i*n)),[],[]⟩ :=
 bj fun c st ρ a w hr h1 _=>by
  have he:=h1 x (by simp [ho,Op.operands])
  have he2:=h1 y (by simp [ho,Op.operands])
  rw [hx] at he
  rw [hy] at he2
  have hv:=hr.ev x
  rw [he] at hv
  have hv2:=hr.ev y
  rw [he2] at hv2
  obtain ⟨g,hg,hv⟩:=hv
  have hv2:a.eval y = .int kd z:=hv2
  subst hz
  refine ⟨.pointer (some ⟨g,i*n,none⟩),by unfold execOp;rw [ho];simp only [hv,hv2,Sem.run_bind,gU w m m i hi,Result.andThen_ok,Sem.run_pure,Nat.zero_add],⟨g,hg,rfl⟩,fun k' hk=>hr.nf (x:=x) he hk⟩
theorem kK (q:Qu) (h1:q.holds.length≤100000) (h2:q.convs.length≤100000) (h3:q.waits.length≤100000):FSpec prog 280 [q.a] [] [] (.v q.a) []:=by
 refine aS func280 ?_
 repeat' (first
  | refine ah ?_ ?_
  | refine af ?_
  | exact ai|refine ae fun hb=>?_
  | (refine aE (qf []) ?_;exact ab))
def Jv (q:Qu) (k:Nat):List D:=[.sc (.string q.res.name),.sc (.int .i64 q.res.kind),.sc (.int .i64 q.res.units),.sc (.int .i64 q.res.home),.sl ga q.holds,.own k,.sl eZ q.waits,.sc (.int .i64 q.gen)]
theorem Dm (q:Qu) (h1:q.holds.length≤100000) (h2:q.convs.length≤100000) (h3:q.waits.length≤100000):FSpec prog 280 [q.a] [] [0] (.v (.ag (Jv q 0))) [(0,some (.arr 171 eZ q.convs))]:=by
 refine aS func280 ?_
 repeat' (first
  | refine ah ?_ ?_
  | refine af ?_
  | exact ai|refine ae fun hb=>?_)
 refine aE (qf [(0,9)]) ?_;exact ab
theorem iH (q:Qu) (hs:Sd q):FSpec prog 322 [.one (.ptr 0 0)] [(0,.box 81 q.d)] [] (.c (.sl ga (mq q).2)) [(0,some (.box 81 (mq q).1.d))]:=by
 have hh:=hs.hv.len
 have h1:=hs.clen
 have h2:=hs.wlen
 have hm:ge q≤16:=by unfold ge;omega
 refine aS func322 ?_
 repeat' (first
  | refine ah ?_ ?_
  | ((with_reducible refine Ch ?_);refine B0 ?_)
  | ((with_reducible refine Ch ?_);refine BZ ?_)
  | refine af ?_
  | exact ai|refine ae fun hb=>?_)
 refine b8 3 1000 197 ga rfl rfl rfl ?_
 refine aj (fun x:Nat×Qu×List Ho=>Sd x.2.1∧ge x.2.1≤x.1∧eF x.1 x.2.1 x.2.2=mq q∧x.2.2.length+x.1≤16) (fun x=>bH [0,1000] [(0,.c (.ptr 0 0)),(3,.c (.own 1000))] [(0,.box 81 x.2.1.d),(1000,.arr 197 ga x.2.2)]) (fun x=>x.1) (ge q,q,[]) ⟨hs,Nat.le_refl _,rfl,by simpa using hm⟩ (by exact ao (qf [])) ?_
 rintro ⟨n,q1,acc⟩ ⟨hs1,hn,hadv,hlen⟩
 dsimp only at *
 have kH:=Dg q1
 cases hset:ax q1 with
 | true =>
  rw [Cz hs1 hset] at hadv
  rw [←hadv]
  have hroom:=(cG.1 hset).2
  cases hq:di q1 with
  | none =>
   rw [hq,Option.isSome_none] at kH
   repeat' (first
    | refine ah ?_ ?_
    | refine aa 9 rfl (cB [] (kH) ?_)
    | refine af ?_
    | exact ai|refine ae fun hb=>?_
    | (refine ⟨fun _ h=>(by cases h),?_⟩;refine aE (qf []) ?_;exact ab))
  | some x =>
   have hr:=hroom x hq
   obtain ⟨z,hz⟩:∃z,lx q1=z:=⟨_,rfl⟩
   rw [hq,hz,Option.isSome_some] at kH
   obtain rfl:x=z:=by rw [←hz];unfold lx;rw [hq];rfl
   have kR:=De q1.res q1.holds x.proc x.am
   rw [hr] at kR
   repeat' (first
    | refine ah ?_ ?_
    | (refine aa 9 rfl ?_;first
     | (refine cB [] (kH) ?_)
     | (refine cB [] (kR) ?_))
    | refine af ?_
    | exact ai|refine ae fun hb=>?_
    | (refine ⟨fun _ h=>(by cases h),?_⟩;refine aE (qf []) ?_;exact ab))
 | false =>
  obtain ⟨x,hx,hs2,hn2,hpos,hgo⟩:=AD (acc:=acc) hs1 hset hn
  rw [hgo] at hadv
  have hh1:=hs1.hv.len
  have kR:=De q1.res q1.holds x.proc x.am
  rw [show fv q1.res q1.holds x.proc x.am=true by have:=hset;simpa [ax,pS.2 hs1,hx] using this] at kR
  obtain ⟨z,hz⟩:∃z,lx q1=z:=⟨_,rfl⟩
  rw [hx,hz,Option.isSome_some] at kH
  obtain rfl:x=z:=by rw [←hz];unfold lx;rw [hx];rfl
  clear hz
  obtain ⟨r,hs',cs,ws,gn⟩:=q1
  cases cs with
  | cons y cs =>
   obtain rfl:y=x:=by simpa [di] using hx
   repeat' (first
    | refine ah ?_ ?_
    | (refine aa 8 rfl ?_;refine bg (aw rfl rfl (aL rfl rfl) (aP [⟨y.proc,y.am⟩] rfl rfl rfl rfl) rfl aR aR) rfl rfl rfl ?_)
    | (refine aa 9 rfl ?_;first
     | (refine cB [] (kH) ?_)
     | (refine cB [] (kR) ?_)
     | (refine cC [] (Dd hs' y.proc y.am (by dsimp only at hh1;omega)) ?_))
    | refine af ?_
    | exact ai|(refine ae fun hb=>?_;first|(simp at hb;done)|skip))
   refine ⟨(n-1,gF ⟨r,hs',y :: cs,ws,gn⟩ y,acc++[⟨y.proc,y.am⟩]),⟨hs2,by dsimp only;omega,hadv,by simp;omega⟩,by dsimp only;omega,?_⟩
   exact ao (qf [(1000,74)])
  | nil =>
   obtain ⟨ws2,rfl⟩:∃m,ws=x :: m:=by
    cases ws with
    | nil=>simp [di] at hx
    | cons z m=>exact ⟨m,by rw [show z=x by simpa [di] using hx]⟩
   repeat' (first
    | refine ah ?_ ?_
    | (refine aa 8 rfl ?_;refine bg (aw rfl rfl (aL rfl rfl) (aP [⟨x.proc,x.am⟩] rfl rfl rfl rfl) rfl aR aR) rfl rfl rfl ?_)
    | (refine aa 9 rfl ?_;first
     | (refine cB [] (kH) ?_)
     | (refine cB [] (kR) ?_)
     | (refine cC [] (Dd hs' x.proc x.am (by dsimp only at hh1;omega)) ?_))
    | refine af ?_
    | exact ai|(refine ae fun hb=>?_;first|(simp at hb;done)|skip))
   refine ⟨(n-1,gF ⟨r,hs',[],x :: ws2,gn⟩ x,acc++[⟨x.proc,x.am⟩]),⟨hs2,by dsimp only;omega,hadv,by simp;omega⟩,by dsimp only;omega,?_⟩
   exact ao (qf [(1000,74)])
theorem iI (n:Int):FSpec prog 153 [iV n] [] [] (.i (aQ n)) []:=by
 obtain ⟨v,hv⟩:∃v,aQ n=v:=⟨_,rfl⟩
 rw [hv]
 unfold aQ at hv
 refine aS func153 ?_
 by_cases h:n<0∨1073741824≤n
 ·rw [if_pos h] at hv
  obtain rfl:=hv
  repeat' (first
   | refine ah ?_ ?_
   | refine af ?_
   | exact ai|refine ae fun hb=>?_
   | (refine aE (qf []) ?_;exact ab))
 ·rw [if_neg h] at hv
  obtain rfl:=hv
  repeat' (first
   | refine ah ?_ ?_
   | refine af ?_
   | exact ai|refine ae fun hb=>?_
   | (refine aE (qf []) ?_;exact ab))
theorem J4 (q:Qu) (p:Pr) (hl:q.convs.length≤100000):FSpec prog 331 [.one (.ptr 0 0),.one (.ptr 1 0)] [(0,.box 81 q.d),i8 1 p] [] (.tup []) [(0,some (.box 81 { q with convs:=b7 q.convs p }.d)),(1,some (i8 1 p).2)]:=by
 refine aS func331 ?_
 repeat' (first
  | refine ah ?_ ?_
  | refine aa 9 rfl (cC [] (mT q.convs p hl) ?_)
  | refine af ?_
  | exact ai|refine ae fun hb=>?_
  | (exact sE (qf [])))
theorem J5 (q:Qu) (p:Pr) (hl:q.waits.length≤100000):FSpec prog 332 [.one (.ptr 0 0),.one (.ptr 1 0)] [(0,.box 81 q.d),i8 1 p] [] (.tup []) [(0,some (.box 81 { q with waits:=b7 q.waits p }.d)),(1,some (i8 1 p).2)]:=by
 refine aS func332 ?_
 repeat' (first
  | refine ah ?_ ?_
  | refine aa 9 rfl (cC [] (mT q.waits p hl) ?_)
  | refine af ?_
  | exact ai|refine ae fun hb=>?_
  | (exact sE (qf [])))
theorem Hj (q:Qu) (p:Pr) (hc:q.convs.length≤100000) (hw:q.waits.length≤100000) {q2:Qu} (hq:{ q with convs:=b7 q.convs p,waits:=b7 q.waits p } = q2) (hs:Sd q2):FSpec prog 281 [.one (.ptr 0 0),.one (.slb 1 2)] [(0,.box 81 q.d),(1,.box 1 [.clo 331 [0,2],.clo 332 [0,2]]),i8 2 p] [] (ub (iL (dE q2))) [(0,none),(1,none),(2,none)]:=by
 refine aS func281 ?_
 obtain ⟨q1,hq1⟩:∃q1,{ q with convs:=b7 q.convs p } = q1:=⟨_,rfl⟩
 have k1:=J4 q p hc
 rw [hq1] at k1
 have k2:=J5 q1 p (by rw [←hq1];exact hw)
 rw [show ({ q1 with waits:=b7 q1.waits p }:Qu)=q2 by rw [←hq,←hq1]] at k2
 repeat' (first
  | refine ah ?_ ?_
  | (refine aa 7 rfl ?_;refine sx (iG rfl rfl) ?_)
  | refine af ?_
  | exact ai|refine ae fun hb=>?_)
 refine aj (fun x:Nat×Qu=>x.1=0∧x.2=q∨x.1=1∧x.2=q1∨x.1=2∧x.2=q2) (fun x=>bH [0,1,2,4] [(0,.c (.ptr 0 0)),(4,.c (.ptr 4 0)),(10,.c (.slb 1 2)),(11,.i 2),(12,.i x.1)] [(0,.box 81 x.2.d),(4,.box 81 AE),(1,.box 1 [.clo 331 [0,2],.clo 332 [0,2]]),i8 2 p]) (fun x=>2-x.1) (0,q) (.inl ⟨rfl,rfl⟩) (by exact ao (qf [])) ?_
 rintro ⟨i,z⟩ hz
 dsimp only at *
 rcases hz with ⟨rfl,rfl⟩|⟨rfl,rfl⟩|⟨rfl,rfl⟩
 ·repeat' (first
   | refine ah ?_ ?_
   | (refine aa 6 rfl ?_;refine sx (dv (i:=0) rfl rfl rfl rfl (by decide)) ?_)
   | (refine aa 9 rfl ?_;refine ll 0 [0,1] (qf [(0,0),(1,2)]) (k1) ?_)
   | refine af ?_
   | exact ai|(refine ae fun hb=>?_;first|(exact absurd hb (by decide))|skip))
  refine ⟨(1,q1),.inr (.inl ⟨rfl,rfl⟩),by simp,?_⟩
  exact ao (qf [])
 ·repeat' (first
   | refine ah ?_ ?_
   | (refine aa 6 rfl ?_;refine sx (dv (i:=1) rfl rfl rfl rfl (by decide)) ?_)
   | (refine aa 9 rfl ?_;refine ll 0 [0,1] (qf [(0,0),(1,2)]) (k2) ?_)
   | refine af ?_
   | exact ai|(refine ae fun hb=>?_;first|(exact absurd hb (by decide))|skip))
  refine ⟨(2,q2),.inr (.inr ⟨rfl,rfl⟩),by simp,?_⟩
  exact ao (qf [])
 ·have kA:=iH z hs
  unfold dE
  obtain ⟨⟨N,G⟩,hN⟩:∃x,mq z=x:=⟨_,rfl⟩
  have hg:N.gen=z.gen:=by have:=(dz hs).2.1;rw [hN] at this;exact this
  rw [hN] at kA ⊢
  dsimp only
  rw [←hg]
  repeat' (first
   | refine ah ?_ ?_
   | (refine aa 9 rfl ?_;first
    | (refine cH (qf [(0,0)]) (kA) ?_)
    | (refine cB [] (iI N.gen) ?_))
   | refine af ?_
   | exact ai|(refine ae fun hb=>?_;first|(exact absurd hb (by decide))|skip)
   | (refine f9 (qf []) ?_;exact ab))
theorem Dn (q:Qu) (p:Pr) {R:Qu×List Ho×Int} (hR:bq q p=R):FSpec prog 319 [q.a,p.a] [] [] (ub R) []:=by
 refine aS func319 ?_
 cases hS:ax q with
 | false =>
  obtain rfl:R=bW 2:=by rw [←hR];simp [bq,hS]
  repeat' (first
   | refine ah ?_ ?_
   | refine aa 9 rfl (cB [] (cg q) ?_)
   | refine af ?_
   | exact ai|(refine ae fun hb=>?_;first|(simp [hS] at hb;done)|skip)
   | (refine f9 (qf []) ?_;exact ab))
 | true =>
  have hs:=aK hS
  have h1:=hs.hv.len
  have h2:=hs.clen
  have h3:=hs.wlen
  cases hw:ap q p with
  | none =>
   obtain rfl:R=bW 10:=by rw [←hR];simp [bq,hS,hw]
   repeat' (first
    | refine ah ?_ ?_
    | (refine aa 9 rfl ?_;first
     | (refine cB [] (cg q) ?_)
     | (refine cB [] (d5 q p (by omega) (by omega) hw) ?_))
    | refine af ?_
    | exact ai|(refine ae fun hb=>?_;first|(simp [hS] at hb;done)|skip)
    | (refine f9 (qf []) ?_;exact ab))
  | some a =>
   obtain rfl:R=iL (dE { q with convs:=b7 q.convs p,waits:=b7 q.waits p }):=by rw [←hR];simp [bq,hS,hw]
   have hd:=hs.drop p
   have kF:=Hj q p (by omega) (by omega) rfl hd
   repeat' (first
    | refine ah ?_ ?_
    | (refine aa 0 rfl ?_;refine sx (cD (ks:=[9,3]) rfl rfl) ?_)
    | (refine aa 9 rfl ?_;first
     | (refine cB [] (cg q) ?_)
     | (refine cB [] (d5 q p (by omega) (by omega) hw) ?_)
     | (refine cC [] (kK q (by omega) (by omega) (by omega)) ?_)
     | (refine cH (qf [(0,9),(1,27),(2,3)]) (kF) ?_))
    | refine af ?_
    | exact ai|(refine ae fun hb=>?_;first|(simp [hS] at hb;done)|skip)
    | (refine f9 (qf []) ?_;exact ab))
theorem J6 (q:Qu) (p:Pr) (a:Am) (hl:q.holds.length≤100000):FSpec prog 325 [.one (.ptr 0 0),.one (.ptr 1 0),.one (.ptr 2 0)] [(0,.box 81 q.d),i8 1 p,(2,.box 37 [.sc (.int .i64 a.mode),.sc (.int .i64 a.units)])] [] (.tup []) [(0,some (.box 81 { q with holds:=b9 q.holds p a }.d)),(1,some (i8 1 p).2),(2,some (.box 37 [.sc (.int .i64 a.mode),.sc (.int .i64 a.units)]))]:=by
 refine aS func325 ?_
 repeat' (first
  | refine ah ?_ ?_
  | refine aa 9 rfl (cC [] (Dd q.holds p a hl) ?_)
  | refine af ?_
  | exact ai|refine ae fun hb=>?_
  | (exact sE (qf [])))
theorem Hk (q:Qu) (p:Pr) (a:Am) (hc:q.holds.length≤100000) {q2:Qu} (hq:{ q with holds:=b9 q.holds p a } = q2) (hs:Sd q2):FSpec prog 281 [.one (.ptr 0 0),.one (.slb 1 1)] [(0,.box 81 q.d),(1,.box 1 [.clo 325 [0,2,3]]),i8 2 p,(3,.box 37 [.sc (.int .i64 a.mode),.sc (.int .i64 a.units)])] [] (ub (iL (dE q2))) [(0,none),(1,none),(2,none),(3,none)]:=by
 refine aS func281 ?_
 have k1:=J6 q p a hc
 rw [hq] at k1
 repeat' (first
  | refine ah ?_ ?_
  | (refine aa 7 rfl ?_;refine sx (iG rfl rfl) ?_)
  | refine af ?_
  | exact ai|refine ae fun hb=>?_)
 refine aj (fun x:Nat×Qu=>x.1=0∧x.2=q∨x.1=1∧x.2=q2) (fun x=>bH [0,1,2,3,4] [(0,.c (.ptr 0 0)),(4,.c (.ptr 4 0)),(10,.c (.slb 1 1)),(11,.i 1),(12,.i x.1)] [(0,.box 81 x.2.d),(4,.box 81 AE),(1,.box 1 [.clo 325 [0,2,3]]),i8 2 p,(3,.box 37 [.sc (.int .i64 a.mode),.sc (.int .i64 a.units)])]) (fun x=>1-x.1) (0,q) (.inl ⟨rfl,rfl⟩) (by exact ao (qf [])) ?_
 rintro ⟨i,z⟩ hz
 dsimp only at *
 rcases hz with ⟨rfl,rfl⟩|⟨rfl,rfl⟩
 ·repeat' (first
   | refine ah ?_ ?_
   | (refine aa 6 rfl ?_;refine sx (dv (i:=0) rfl rfl rfl rfl (by decide)) ?_)
   | (refine aa 9 rfl ?_;refine ll 0 [0,1,2] (qf [(0,0),(1,2),(2,3)]) (k1) ?_)
   | refine af ?_
   | exact ai|(refine ae fun hb=>?_;first|(exact absurd hb (by decide))|skip))
  refine ⟨(1,q2),.inr ⟨rfl,rfl⟩,by simp,?_⟩
  exact ao (qf [])
 ·have kA:=iH z hs
  unfold dE
  obtain ⟨⟨N,G⟩,hN⟩:∃x,mq z=x:=⟨_,rfl⟩
  have hg:N.gen=z.gen:=by have:=(dz hs).2.1;rw [hN] at this;exact this
  rw [hN] at kA ⊢
  dsimp only
  rw [←hg]
  repeat' (first
   | refine ah ?_ ?_
   | (refine aa 9 rfl ?_;first
    | (refine cH (qf [(0,0)]) (kA) ?_)
    | (refine cB [] (iI N.gen) ?_))
   | refine af ?_
   | exact ai|(refine ae fun hb=>?_;first|(exact absurd hb (by decide))|skip)
   | (refine f9 (qf []) ?_;exact ab))
theorem AX {q:Qu} {p:Pr} (hs:Sd q) (hz:aq q.holds p≠⟨0,0⟩):(0≤dh q.convs p)↔(ap q p).isSome=true:=by
 unfold ap
 rw [dV]
 rcases fW p q.convs 0 with ⟨h1,h2⟩|⟨i,h,h1,h2⟩
 ·have hw:f5 q.waits p=none:=by
   rcases fW p q.waits 0 with ⟨h3,h4⟩|⟨i,h,h3,h4⟩
   ·exact h4
   ·exfalso
    have hf:∃x∈q.waits,x.proc=p:=Classical.byContradiction fun hn=>by
     have:=jI (p:=p) (l:=q.waits) (k:=0) fun x hx e=>hn ⟨x,hx,e⟩
     rw [this] at h3
     omega
    obtain ⟨x,hx,rfl⟩:=hf
    exact hz (hs.wok _ hx).2.2
  unfold dh
  rw [h1,h2,hw]
  simp
 ·unfold dh
  rw [h1,h2]
  simp
theorem Fu (q:Qu) (p:Pr) (a:Am) {R:Qu×List Ho×Int} (hR:bC q p a=R):FSpec prog 285 [q.a,p.a,a.a] [] [] (ub R) []:=by
 refine aS func285 ?_
 cases hS:ax q with
 | false =>
  obtain rfl:R=bW 2:=by rw [←hR];simp [bC,hS]
  repeat' (first
   | refine ah ?_ ?_
   | refine aa 9 rfl (cB [] (cg q) ?_)
   | refine af ?_
   | exact ai|(refine ae fun hb=>?_;first|(simp [hS] at hb;done)|skip)
   | (refine f9 (qf []) ?_;exact ab))
 | true =>
  have hs:=aK hS
  have h1:=hs.hv.len
  have h2:=hs.clen
  have h3:=hs.wlen
  cases hz:aG (aq q.holds p) with
  | true =>
   obtain rfl:R=bW 10:=by rw [←hR];simp [bC,hS,hz]
   repeat' (first
    | refine ah ?_ ?_
    | (refine aa 9 rfl ?_;first
     | (refine cB [] (cg q) ?_)
     | (refine cB [] (dZ q p) ?_)
     | (refine cB [] (gg (aq q.holds p)) ?_))
    | refine af ?_
    | exact ai|(refine ae fun hb=>?_;first|(simp [hS] at hb;done)|(simp [hz] at hb;done)|skip)
    | (refine f9 (qf []) ?_;exact ab))
  | false =>
   have hcv:=AX hs (bo.1 hz)
   obtain ⟨n,hn⟩:∃n,dh q.convs p=n:=⟨_,rfl⟩
   have kF:=nI q.convs p
   rw [hn] at hcv kF
   cases hw:ap q p with
   | some b =>
    obtain rfl:R=bW 14:=by rw [←hR];simp [bC,hS,hz,hw]
    have h0:0≤n:=hcv.2 (by rw [hw];rfl)
    repeat' (first
     | refine ah ?_ ?_
     | (refine aa 9 rfl ?_;first
      | (refine cB [] (cg q) ?_)
      | (refine cB [] (dZ q p) ?_)
      | (refine cB [] (gg (aq q.holds p)) ?_)
      | (refine cB [] (kF) ?_))
     | refine af ?_
     | exact ai|(refine ae fun hb=>?_;first|(simp [hS] at hb;done)|(simp [hz] at hb;done)|skip)
     | (refine f9 (qf []) ?_;exact ab))
   | none =>
    have h0:¬0≤n:=fun h=>by have:=hcv.1 h;rw [hw] at this;cases this
    cases hc:bb q.res (aq q.holds p) a with
    | false =>
     obtain rfl:R=bW 12:=by rw [←hR];simp [bC,hS,hz,hw,hc]
     repeat' (first
      | refine ah ?_ ?_
      | (refine aa 9 rfl ?_;first
       | (refine cB [] (cg q) ?_)
       | (refine cB [] (dZ q p) ?_)
       | (refine cB [] (gg (aq q.holds p)) ?_)
       | (refine cB [] (kF) ?_)
       | (refine cB [] (fp q.res (aq q.holds p) a) ?_))
      | refine af ?_
      | exact ai|(refine ae fun hb=>?_;first|(simp [hS] at hb;done)|(simp [hz] at hb;done)|(simp [hc] at hb;done)|skip)
      | (refine f9 (qf []) ?_;exact ab))
    | true =>
     have hd:=hs.lower hw (bo.1 hz) hc
     obtain ⟨R1,hR1⟩:∃R1,R1=(bif decide (aq q.holds p=a) then iL (q,[]) else iL (dE { q with holds:=b9 q.holds p a })):=⟨_,rfl⟩
     obtain rfl:R=R1:=by rw [←hR,hR1];simp [bC,hS,hz,hw,hc]
     clear hR
     have kL:=Hk q p a (by omega) rfl hd
     repeat' (first
      | refine ah ?_ ?_
      | (refine aa 0 rfl ?_;refine sx (cD (ks:=[10,4,5]) rfl rfl) ?_)
      | (refine aa 9 rfl ?_;first
       | (refine cB [] (cg q) ?_)
       | (refine cB [] (dZ q p) ?_)
       | (refine cB [] (gg (aq q.holds p)) ?_)
       | (refine cB [] (kF) ?_)
       | (refine cB [] (fp q.res (aq q.holds p) a) ?_)
       | (refine cC [] (kK q (by omega) (by omega) (by omega)) ?_)
       | (refine cH (qf [(0,10),(1,41),(2,4),(3,5)]) (kL) ?_))
      | refine af ?_
      | exact ai|(refine ae fun hb=>?_;first|(simp [hS] at hb;done)|(simp [hz] at hb;done)|(simp [hc] at hb;done)|skip))
     ·obtain rfl:R=iL (q,[]):=by rw [hR1];simp [hb]
      refine f9 (qf []) ?_;exact ab
     ·obtain rfl:R=iL (dE { q with holds:=b9 q.holds p a }):=by rw [hR1,decide_eq_false (fun h=>hb h.symm)];rfl
      refine f9 (qf []) ?_;exact ab
theorem zl {P:Program} {o:Oper} {s:Mst} {ts:Array TypeId} {x y:Operand} {a b:Int} (ho:o.op = .call { callee:=.builtin .max,args:=#[x,y],argTypes:=ts }) (hx:s.ev x = .i a) (hy:s.ev y = .i b):LOp P o s [] ⟨.i (max a b),[],[]⟩ :=
 gT (by rw [ho];rfl) hx hy fun ev w hx hy=>by
  have h:(if b > a then b else a)=max a b:=by rw [Int.max_def];split <;> split <;> omega
  simp [execOp,ho,hx,hy,resolve,invoke,builtin,Builtin.max_,Builtin.max2,h]
theorem Do (s:ByteArray):FSpec prog 108 [.one (.sc (.string s))] [] [] (.b (co s.toList)) [] :=
 bY (fun b W=>by kernel_rfl) rfl fun w S ρ vs _ h=>by
  match vs,h with
  | [_],⟨rfl,_⟩=>exact (g5 s w).mono fun e w' h=>⟨_,h.1,by rw [h.2];exact Below.refl _ _,rfl⟩
theorem I7:∀(x:Ex) (d lev n:Nat),lev≤5→n≤24→FSpec prog 296 [x.a d,iV lev,.one (.ptr 0 0)] [(0,.box 3 [.sc (.int .i64 n)])] [] (.i (gj x lev n).1) [(0,some (.box 3 [.sc (.int .i64 (gj x lev n).2)]))]:=by
 refine Ex.ind (fun k a l ih=>?_)
 intro d lev n hlev hn
 obtain ⟨r,hr⟩:∃r,gj (.mk k a l) lev n=r:=⟨_,rfl⟩
 rw [hr]
 rw [tu] at hr
 show FSpec prog 296 [.ag (rp d k a l),iV lev,.one (.ptr 0 0)] [(0,.box 3 [.sc (.int .i64 n)])] [] (.i r.1) [(0,some (.box 3 [.sc (.int .i64 r.2)]))]
 refine aS func296 ?_
 refine aH (fun c ρ a w hr=>gX (t:=0) (i:=4) hr rfl rfl) (fun hx=>?_)
 obtain ⟨hlen,hne⟩:=hx
 by_cases hc:4<lev∨24<n+1
 ·rw [if_pos hc] at hr
  obtain rfl:=hr
  repeat' (first
   | refine ah ?_ ?_
   | refine af ?_
   | exact ai|refine ae fun hb=>?_
   | (refine aE (qf []) ?_;exact ab))
  all_goals (exfalso;omega)
 rw [if_neg hc] at hr
 repeat' (first
  | refine ah ?_ ?_
  | refine af ?_
  | exact ai|refine ae fun hb=>?_)
 refine aj (fun x:Nat×Nat×Nat=>x.1≤l.length∧x.2.1≤24∧x.2.2≤5∧gB (l.drop x.1) lev x.2.1 x.2.2=r) (fun x=>bH [0] [(1,.i lev),(2,.c (.ptr 0 0)),(7,.i x.2.2),(25,.c (.sl (mY d) l)),(26,.i l.length),(27,.i x.1)] [(0,.box 3 [.sc (.int .i64 x.2.1)])]) (fun x=>l.length-x.1) (0,n+1,0) ⟨Nat.zero_le _,by dsimp only;omega,Nat.zero_le _,hr⟩ (by exact ao (qf [])) ?_
 rintro ⟨i,n1,m⟩ ⟨hi,hn1,hm,hs⟩
 dsimp only at *
 by_cases hlt:i<l.length
 case neg =>
  rw [List.drop_eq_nil_of_le (by omega)] at hs
  obtain rfl:=hs
  repeat' (first
   | refine ah ?_ ?_
   | refine af ?_
   | exact ai|refine ae fun hb=>?_
   | (refine aE (qf []) ?_;exact ab))
 rw [List.drop_eq_getElem_cons hlt,lI] at hs
 obtain ⟨e,rfl⟩:=hne (by omega)
 obtain ⟨⟨a1,n2⟩,h1⟩:∃p,gj l[i] (lev+1) n1=p:=⟨_,rfl⟩
 have h5:a1≤5∧(a1≠0→n2≤24):=by
  rcases tw l[i] (lev+1) n1 with ⟨b1,b2,b3⟩|⟨b1,b2,b3⟩ <;> rw [h1] at *
  ·injection b3;omega
  ·dsimp only at b2;omega
 have kS:FSpec prog 296 [l[i].a e,iV ((lev:Int)+1),.one (.ptr 0 0)] [(0,.box 3 [.sc (.int .i64 n1)])] [] (.i a1) [(0,some (.box 3 [.sc (.int .i64 n2)]))]:=by
  have:=ih l[i] (List.getElem_mem hlt) e (lev+1) n1 (by omega) hn1
  rw [h1] at this
  exact this
 rw [h1] at hs
 dsimp only at hs
 clear ih h1
 repeat' (first
  | refine ah ?_ ?_
  | (refine aa 9 rfl ?_;first
   | (refine sx (zl rfl rfl rfl) ?_)
   | (refine cH (qf [(0,0)]) (kS) ?_))
  | refine af ?_
  | exact ai|refine ae fun hb=>?_)
 ·obtain rfl:(0,n2)=r:=by rw [←hs,if_pos (by omega)]
  refine aE (qf []) ?_;exact ab
 ·refine ⟨(i+1,n2,max m a1),⟨by dsimp only;omega,by dsimp only;omega,by dsimp only;omega,by rw [←hs,if_neg (by omega)]⟩,by dsimp only;omega,?_⟩
  dsimp only
  exact ao (qf [])
theorem yc (x:Ex) (d:Nat) {n:Nat} (hn:(if qX x then x.dep else 0:Nat)=n):FSpec prog 237 [x.a d] [] [] (.i n) []:=by
 have kM:=I7 x d 1 0 (by decide) (by decide)
 rw [yw,hn] at kM
 obtain ⟨m,hm⟩:∃m,(gj x 1 0).2=m:=⟨_,rfl⟩
 rw [hm] at kM
 refine aS func237 ?_
 repeat' (first
  | refine ah ?_ ?_
  | refine aa 9 rfl (cH (qf [(0,3)]) (kM) ?_)
  | refine af ?_
  | exact ai|refine ae fun hb=>?_
  | (refine aE (qf []) ?_;exact ab))
def J7 (o:Option (List Tm)):List (Nat×Option Box):=match o with
 | some r=>[(0,some (.box 103 [.own 2])),(1,none),(2,some (.arr 39 bV r))]
 | none=>[(0,none),(1,none),(2,none)]
def lz:List Tm→List Tm→Tm→Int
 | [],acc,_=>if acc.length=8 then 4 else 0
 | b :: l,acc,a=>bif decide (a=b) then 0 else bif decide (a.name=b.name) then 13 else lz l acc a
theorem qK (b:Tm) (l acc:List Tm) (a:Tm):lz (b :: l) acc a=bif decide (a=b) then 0 else bif decide (a.name=b.name) then 13 else lz l acc a:=rfl
theorem wJ (acc:List Tm) (a:Tm):∀l,(dl l acc a=none∧(lz l acc a=4∨lz l acc a=13))∨(∃r,dl l acc a=some r)∧lz l acc a=0
 | []=>by
  unfold dl lz
  by_cases h:acc.length=8
  ·rw [if_pos h,if_pos h];exact .inl ⟨rfl,.inl rfl⟩
  ·rw [if_neg h,if_neg h];exact .inr ⟨⟨_,rfl⟩,rfl⟩
 | b :: l=>by
  rw [gC,qK]
  cases decide (a=b) with
  | true=>exact .inr ⟨⟨_,rfl⟩,rfl⟩
  | false =>
   cases decide (a.name=b.name) with
   | true=>exact .inl ⟨rfl,.inr rfl⟩
   | false=>exact wJ acc a l
theorem Ge (acc:List Tm) (a:Tm) (h8:acc.length≤8) {c:Int} (hc:lz acc acc a=c) {R:Option (List Tm)} (hR:dl acc acc a=R):FSpec prog 298 [.one (.ptr 0 0),a.a] [(0,.box 103 [.own 1]),(1,.arr 39 bV acc)] [2] (.i c) (J7 R):=by
 refine fP func298 rfl (fun b W=>by kernel_rfl) (by cases R <;> rfl) (Nat.le_of_ble_eq_true rfl) ?_
 repeat' (first
  | refine ah ?_ ?_
  | refine af ?_
  | exact ai|refine ae fun hb=>?_)
 refine aj (fun i=>i≤acc.length∧lz (acc.drop i) acc a=c∧dl (acc.drop i) acc a=R) (fun i=>bH [0,1,3] [(0,.c (.ptr 0 0)),(3,.c (.ptr 3 0)),(9,.c (.own 1)),(10,.i acc.length),(11,.i i)] [(0,.box 103 [.own 1]),(1,.arr 39 bV acc),(3,.box 39 [.sc (.string a.name),.sc (.int .i64 a.am.mode),.sc (.int .i64 a.am.units)])]) (fun i=>acc.length-i) 0 ⟨Nat.zero_le _,hc,hR⟩ (by exact ao (qf [])) ?_
 rintro i ⟨hi,hc,hR⟩
 by_cases hlt:i<acc.length
 ·rw [List.drop_eq_getElem_cons hlt] at hc hR
  rw [qK] at hc
  rw [gC] at hR
  by_cases h1:a=acc[i]
  ·rw [decide_eq_true h1] at hc hR
   obtain rfl:=hc
   obtain rfl:=hR
   repeat' (first
    | refine ah ?_ ?_
    | refine af ?_
    | exact ai|refine ae fun hb=>?_
    | (refine aE (qf [(2,1)]) ?_;exact ab))
  rw [decide_eq_false h1,cond_false] at hc hR
  by_cases h2:a.name=acc[i].name
  ·rw [decide_eq_true h2] at hc hR
   obtain rfl:=hc
   obtain rfl:=hR
   repeat' (first
    | refine ah ?_ ?_
    | refine af ?_
    | exact ai|(refine ae fun hb=>?_;first|(exact absurd (by rw [h2]) hb)|skip)
    | (refine aE (qf []) ?_;exact ab))
  ·rw [decide_eq_false h2] at hc hR
   repeat' (first
    | refine ah ?_ ?_
    | refine af ?_
    | exact ai|(refine ae fun hb=>?_;first|(exact absurd (toList_inj hb) h2)|skip))
   refine ⟨i+1,⟨by omega,hc,hR⟩,by omega,?_⟩
   exact ao (qf [])
 ·rw [List.drop_eq_nil_of_le (by omega)] at hc hR
  unfold lz at hc
  unfold dl at hR
  by_cases h9:acc.length=8
  ·rw [if_pos h9] at hc hR
   obtain rfl:=hc
   obtain rfl:=hR
   repeat' (first
    | refine ah ?_ ?_
    | refine af ?_
    | exact ai|refine ae fun hb=>?_
    | (refine aE (qf []) ?_;exact ab))
  ·rw [if_neg h9] at hc hR
   obtain rfl:=hc
   obtain rfl:=hR
   repeat' (first
    | refine ah ?_ ?_
    | (refine aa 8 rfl ?_;refine bg (aw rfl rfl (aL rfl rfl) (aP [a] rfl rfl rfl rfl) rfl aR aR) rfl rfl rfl ?_)
    | refine af ?_
    | exact ai|refine ae fun hb=>?_
    | (refine aE (qf [(2,35)]) ?_;exact ab))
theorem yd (a:Tm):FSpec prog 297 [a.a] [] [] (.b (gc a)) []:=by
 have hu:=nU a.am.mode a.am.units
 unfold gc
 rw [show bI a.am=_ from hu]
 refine aS func297 ?_
 repeat' (first
  | refine ah ?_ ?_
  | (refine aa 9 rfl ?_;first
   | (refine cB [] (Do a.name) ?_)
   | (refine cB [] (dK ⟨⟨#[]⟩,1,1,0⟩ a.am) ?_)
   | (refine cB [] (dK ⟨⟨#[]⟩,2,8,0⟩ a.am) ?_))
  | refine af ?_
  | exact ai|refine ae fun hb=>?_)
 all_goals (refine dD ?_;simp [*])
theorem Fv:∀(x:Ex) (d:Nat) (acc:List Tm),acc.length≤8→FSpec prog 238 [x.a d,.one (.ptr 0 0)] [(0,.box 103 [.own 1]),(1,.arr 39 bV acc)] [2] (.b (rg x acc).isSome) (J7 (rg x acc)):=by
 refine Ex.ind (fun k a l ih=>?_)
 intro d acc h8
 obtain ⟨R,hR⟩:∃R,rg (.mk k a l) acc=R:=⟨_,rfl⟩
 rw [hR]
 rw [tA] at hR
 show FSpec prog 238 [.ag (rp d k a l),.one (.ptr 0 0)] [(0,.box 103 [.own 1]),(1,.arr 39 bV acc)] [2] (.b R.isSome) (J7 R)
 refine fP func238 rfl (fun b W=>by kernel_rfl) (by cases R <;> rfl) (Nat.le_of_ble_eq_true rfl) ?_
 cases hE:l.isEmpty with
 | true =>
  obtain rfl:=List.isEmpty_iff.1 hE
  rw [hE,cond_true,pq] at hR
  cases hk:decide (k=0) && gc a with
  | false =>
   rw [hk] at hR
   obtain rfl:none=R:=hR
   repeat' (first
    | refine ah ?_ ?_
    | refine aa 9 rfl (cB [] (yd a) ?_)
    | refine af ?_
    | exact ai|refine ae fun hb=>?_
    | (refine aE (qf []) ?_;exact ab))
   all_goals (exfalso;revert hk;simp [*])
  | true =>
   rw [hk,cond_true] at hR
   obtain ⟨h0,h1⟩:k=0∧gc a=true:=by simpa using hk
   rcases wJ acc a acc with ⟨e1,e2⟩|⟨⟨r,e1⟩,e2⟩
   ·obtain rfl:none=R:=e1.symm.trans hR
    rcases e2 with e2|e2
    all_goals
     repeat' (first
      | refine ah ?_ ?_
      | (refine aa 9 rfl ?_;first
       | (refine cB [] (yd a) ?_)
       | (refine cH (qf [(0,0),(1,1),(2,1001)]) (Ge acc a h8 e2 e1) ?_))
      | refine af ?_
      | exact ai|(refine ae fun hb=>?_;first|(simp [h1] at hb;done)|skip)
      | (refine aE (qf []) ?_;exact ab))
   ·obtain rfl:some r=R:=e1.symm.trans hR
    repeat' (first
     | refine ah ?_ ?_
     | (refine aa 9 rfl ?_;first
      | (refine cB [] (yd a) ?_)
      | (refine cH (qf [(0,0),(1,1),(2,1001)]) (Ge acc a h8 e2 e1) ?_))
     | refine af ?_
     | exact ai|(refine ae fun hb=>?_;first|(simp [h1] at hb;done)|skip)
     | (refine aE (qf [(2,1001)]) ?_;exact ab))
 | false =>
  have hl0:0<l.length:=List.length_pos_iff.2 fun e=>by rw [e] at hE;cases hE
  rw [hE,cond_false] at hR
  refine aH (fun c ρ a w hr=>gX (t:=0) (i:=4) hr rfl rfl) (fun hx=>?_)
  obtain ⟨hlen,hne⟩:=hx
  obtain ⟨e,rfl⟩:=hne hl0
  cases hg:lg k a l with
  | false =>
   rw [hg] at hR
   obtain rfl:none=R:=hR
   repeat' (first
    | refine ah ?_ ?_
    | refine af ?_
    | exact ai|refine ae fun hb=>?_
    | (refine aE (qf []) ?_;exact ab))
   all_goals (exfalso;revert hg;simp [lg, *];try omega)
  | true =>
   rw [hg,cond_true] at hR
   obtain ⟨⟨h1,h2⟩,h3⟩:(1≤k∧k≤(l.length:Int))∧a=fO:=by simpa [lg] using hg
   subst h3
   repeat' (first
    | refine ah ?_ ?_
    | refine af ?_
    | exact ai|(refine ae fun hb=>?_;first|(simp at hb;done)|skip))
   refine aj (fun x:Nat×List Tm=>x.1≤l.length∧x.2.length≤8∧yB (l.drop x.1) x.2=R) (fun x=>bH [0,1,1000] [(1,.c (.ptr 0 0)),(44,.c (.sl (mY (e+1)) l)),(45,.i l.length),(46,.i x.1)] [(0,.box 103 [.own 1000]),(1000,.arr 39 bV x.2)]) (fun x=>l.length-x.1) (0,acc) ⟨Nat.zero_le _,h8,hR⟩ (by exact ao (qf [(1000,1)])) ?_
   rintro ⟨i,acc1⟩ ⟨hi,hc,hs⟩
   dsimp only at *
   by_cases hlt:i<l.length
   ·rw [List.drop_eq_getElem_cons hlt] at hs
    rw [pt] at hs
    have kS:=ih l[i] (List.getElem_mem hlt) e acc1 hc
    have hlen2:=yC l[i] acc1
    clear ih
    cases h1:rg l[i] acc1 with
    | none =>
     rw [h1] at hs kS
     obtain rfl:none=R:=hs
     repeat' (first
      | refine ah ?_ ?_
      | refine aa 9 rfl (cH (qf [(0,0),(1,1000),(2,1001)]) (kS) ?_)
      | refine af ?_
      | exact ai|refine ae fun hb=>?_
      | (refine aE (qf []) ?_;exact ab))
    | some r =>
     rw [h1] at hs kS
     have hlen3:=hlen2 r hc h1
     repeat' (first
      | refine ah ?_ ?_
      | refine aa 9 rfl (cH (qf [(0,0),(1,1000),(2,1001)]) (kS) ?_)
      | refine af ?_
      | exact ai|refine ae fun hb=>?_)
     refine ⟨(i+1,r),⟨by dsimp only;omega,by dsimp only;omega,hs⟩,by dsimp only;omega,?_⟩
     exact ao (qf [(1000,1001)])
   ·rw [List.drop_eq_nil_of_le (by omega)] at hs
    obtain rfl:some acc1=R:=hs
    repeat' (first
     | refine ah ?_ ?_
     | refine af ?_
     | exact ai|refine ae fun hb=>?_
     | (refine aE (qf [(2,1000)]) ?_;exact ab))
end Go.Proofs.YtjndcdcbjidocaaGreatDoor
