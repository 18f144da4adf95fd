/- Part 16 of 24 of the proof of rollbackBytes_holds (no condition). -/
import Derived.Test.YtdaajdflefnjfaaGreatL15
set_option linter.unusedVariables false
set_option linter.unusedSimpArgs false
set_option maxRecDepth 100000
set_option maxHeartbeats 64000000
namespace Go.Proofs.YtdaajdflefnjfaaGreat
open Go.RowKit Go.Proofs.Tryz
def Mc (t:Tp):List Rs:=[⟨nA,1,1,t.v 4⟩,⟨nB,1,1,t.s.v 4⟩,⟨nC,1,1,t.s.s.v 4⟩,⟨nD,1,1,t.s.s.s.v 4⟩]
def Md (t:Tp):Nat→Tp
 | 0=>t
 | n+1=>(Md t n).s
theorem KJ (t:Tp) (h:TOk t):FSpec prog 56 [jR] (HT t) [] (.c (.sl fJ (qN t).1)) (Iw (qN t).2):=by
 refine aX func56 ?_
 repeat' (first
  | refine ah ?_ ?_
  | refine af ?_
  | exact ai|refine ae fun hb=>?_)
 refine cc 3 1000 159 fJ rfl rfl rfl ?_
 refine ak (fun i:Nat=>i≤4) (fun i=>bH [0,6,1000] [(0,.v jR),(3,.c (.own 1000)),(4,.c (.slb 6 4)),(5,.i i)] [(0,.box 115 (Jz (Md t i))),(6,.box 9 [.sc (.string nA),.sc (.string nB),.sc (.string nC),.sc (.string nD)]),(1000,.arr 159 fJ ((Mc t).take i))]) (fun i=>4-i) 0 (Nat.zero_le _) (by exact ao (qf [])) ?_
 rintro i hi
 have k1:=h.s
 have k2:=k1.s
 have k3:=k2.s
 have k4:=k3.s
 obtain rfl|rfl|rfl|rfl|rfl:i=0∨i=1∨i=2∨i=3∨i=4:=by omega
 ·have kN:=jH t 4 h (by omega)
  repeat' (first
   | refine ah ?_ ?_
   | (refine aa 6 rfl ?_;refine sx (cb (i:=0) rfl rfl rfl rfl (by decide)) ?_)
   | (refine aa 7 rfl ?_;refine sx (gR rfl rfl) ?_)
   | (refine aa 8 rfl ?_;refine aM (aj rfl rfl (ax rfl rfl) (aB [⟨nA,1,1,t.v 4⟩] rfl rfl rfl rfl) rfl aC aC) rfl rfl rfl ?_)
   | refine aa 9 rfl (cH (qf [(0,0)]) (kN) ?_)
   | refine af ?_
   | exact ai|refine ae fun hb=>?_)
  refine ⟨1,by decide,by decide,?_⟩
  exact ao (qf [(1000,22)])
 ·have kN:=jH t.s 4 k1 (by omega)
  repeat' (first
   | refine ah ?_ ?_
   | (refine aa 6 rfl ?_;refine sx (cb (i:=1) rfl rfl rfl rfl (by decide)) ?_)
   | (refine aa 7 rfl ?_;refine sx (gR rfl rfl) ?_)
   | (refine aa 8 rfl ?_;refine aM (aj rfl rfl (ax rfl rfl) (aB [⟨nB,1,1,t.s.v 4⟩] rfl rfl rfl rfl) rfl aC aC) rfl rfl rfl ?_)
   | refine aa 9 rfl (cH (qf [(0,0)]) (kN) ?_)
   | refine af ?_
   | exact ai|refine ae fun hb=>?_)
  refine ⟨2,by decide,by decide,?_⟩
  exact ao (qf [(1000,22)])
 ·have kN:=jH t.s.s 4 k2 (by omega)
  repeat' (first
   | refine ah ?_ ?_
   | (refine aa 6 rfl ?_;refine sx (cb (i:=2) rfl rfl rfl rfl (by decide)) ?_)
   | (refine aa 7 rfl ?_;refine sx (gR rfl rfl) ?_)
   | (refine aa 8 rfl ?_;refine aM (aj rfl rfl (ax rfl rfl) (aB [⟨nC,1,1,t.s.s.v 4⟩] rfl rfl rfl rfl) rfl aC aC) rfl rfl rfl ?_)
   | refine aa 9 rfl (cH (qf [(0,0)]) (kN) ?_)
   | refine af ?_
   | exact ai|refine ae fun hb=>?_)
  refine ⟨3,by decide,by decide,?_⟩
  exact ao (qf [(1000,22)])
 ·have kN:=jH t.s.s.s 4 k3 (by omega)
  repeat' (first
   | refine ah ?_ ?_
   | (refine aa 6 rfl ?_;refine sx (cb (i:=3) rfl rfl rfl rfl (by decide)) ?_)
   | (refine aa 7 rfl ?_;refine sx (gR rfl rfl) ?_)
   | (refine aa 8 rfl ?_;refine aM (aj rfl rfl (ax rfl rfl) (aB [⟨nD,1,1,t.s.s.s.v 4⟩] rfl rfl rfl rfl) rfl aC aC) rfl rfl rfl ?_)
   | refine aa 9 rfl (cH (qf [(0,0)]) (kN) ?_)
   | refine af ?_
   | exact ai|refine ae fun hb=>?_)
  refine ⟨4,by decide,by decide,?_⟩
  exact ao (qf [(1000,22)])
 ·unfold qN
  rw [show Md t 4=t.s.s.s.s from rfl]
  generalize t.s.s.s.s=u4 at *
  obtain ⟨u5,e5⟩:∃u,u4.s=u:=⟨_,rfl⟩
  obtain ⟨u6,e6⟩:∃u,u5.s=u:=⟨_,rfl⟩
  obtain ⟨u7,e7⟩:∃u,u6.s=u:=⟨_,rfl⟩
  obtain ⟨u8,e8⟩:∃u,u7.s=u:=⟨_,rfl⟩
  have k5:=k4.s
  rw [e5] at k5
  have k6:=k5.s
  rw [e6] at k6
  have k7:=k6.s
  rw [e7] at k7
  have kN1:=jH u4 8 k4 (by omega)
  have kN2:=jH u5 4 k5 (by omega)
  have kN3:=jH u6 3 k6 (by omega)
  have kN4:=jH u7 4 k7 (by omega)
  have b1:=u4.v_in (m:=8) (by omega)
  have b3:=u6.v_in (m:=3) (by omega)
  rw [e5,e6,e7,e8]
  rw [e5] at kN1
  rw [e6] at kN2
  rw [e7] at kN3
  rw [e8] at kN4
  generalize u4.v 8=v1 at *
  generalize u5.v 4=v2 at *
  generalize u6.v 3=v3 at *
  generalize u7.v 4=v4 at *
  clear e5 e6 e7 e8
  repeat' (first
   | refine ah ?_ ?_
   | (refine aa 7 rfl ?_;refine sx (gR rfl rfl) ?_)
   | (refine aa 8 rfl ?_;first
    | (refine aM (aj rfl rfl (ax rfl rfl) (aB [⟨nQ,2,1+v3,v4⟩] rfl rfl rfl rfl) rfl aC aC) rfl rfl rfl ?_)
    | (refine aM (aj rfl rfl (ax rfl rfl) (aB [⟨nP,2,1+v1,v2⟩] rfl rfl rfl rfl) rfl aC aC) rfl rfl rfl ?_))
   | (refine aa 9 rfl ?_;first
    | (refine cH (qf [(0,0)]) (kN1) ?_)
    | (refine cH (qf [(0,0)]) (kN2) ?_)
    | (refine cH (qf [(0,0)]) (kN3) ?_)
    | (refine cH (qf [(0,0)]) (kN4) ?_))
   | refine af ?_
   | exact ai|refine ae fun hb=>?_
   | (refine aE (qf [(0,0)]) ?_;exact ab))
theorem Ht (t:List Qu) (p:Pr) (a:Tm) (prio:Int) {R:List Qu×List Ev×Int} (hR:bQ t p a prio=R):FSpec prog 185 [.one (.sl ji t),p.a,a.a,.one (.sc (.int .i64 prio))] [] [] (Jq R) []:=by
 refine aX func185 ?_
 cases hV:ez t with
 | false =>
  obtain rfl:R=fA 2:=by rw [←hR];simp [bQ,hV]
  repeat' (first
   | refine ah ?_ ?_
   | refine aa 9 rfl (cB [] (dg t) ?_)
   | refine af ?_
   | exact ai|refine ae fun hb=>?_
   | (refine eR (qf []) ?_;exact ab))
 | true =>
  have hm:=(cm hV).1
  have h8:∀q∈t,fO q:=fun q hq=>mQ (dJ hV hq)
  by_cases hf:bK a.name 0 t<0
  case pos =>
   obtain rfl:R=fA 10:=by rw [←hR];simp [bQ,hV,hf]
   repeat' (first
    | refine ah ?_ ?_
    | (refine aa 9 rfl ?_;first
     | (refine cB [] (dg t) ?_)
     | (refine cB [] (mO t a.name) ?_))
    | refine af ?_
    | exact ai|refine ae fun hb=>?_
    | (refine eR (qf []) ?_;exact ab))
  obtain ⟨i,hi,hF,hq,hx⟩:=f7 hf
  by_cases hN:(az t).length=8∧p ∉ az t
  case pos =>
   obtain ⟨hN1,hN2⟩:=hN
   obtain rfl:R=fA 4:=by rw [←hR];simp [bQ,hV,hf,hN1,hN2]
   repeat' (first
    | refine ah ?_ ?_
    | (refine aa 9 rfl ?_;first
     | (refine cB [] (dg t) ?_)
     | (refine cB [] (cO t a.name hF) ?_)
     | (refine cC [] (n7 t (by omega) h8) ?_)
     | (refine cB [] (xM (az t) p) ?_))
    | refine af ?_
    | exact ai|refine ae fun hb=>?_
    | (refine eR (qf []) ?_;exact ab))
  have hS:=dJ hV (List.getElem_mem hi)
  obtain ⟨Q,hQ⟩:∃Q,bG t[i] p a.am prio=Q:=⟨_,rfl⟩
  have hQl:=si hS p a.am prio
  rw [hQ] at hQl
  have hlen:Q.2.1.length≤100000:=by omega
  have hN3:(decide ((az t).length=8) && !decide (p∈az t))=false:=by
   rw [Bool.and_eq_false_iff]
   by_cases h:(az t).length=8
   ·right
    have:p∈az t:=Classical.byContradiction fun h2=>hN ⟨h,h2⟩
    simp [this]
   ·left;simp [h]
  by_cases he:Q.2.2=0
  ·obtain rfl:R=(t.set i Q.1,aY a.name Q.2.1,0):=by rw [←hR];unfold bQ;rw [hq,hQ,hx,hN3];simp [hV,hf,he]
   clear hN3
   repeat' (first
    | refine ah ?_ ?_
    | (refine aa 9 rfl ?_;first
     | (refine cB [] (dg t) ?_)
     | (refine cB [] (cO t a.name hF) ?_)
     | (refine cC [] (n7 t (by omega) h8) ?_)
     | (refine cB [] (xM (az t) p) ?_)
     | (refine cC [] (AV t[i] p a.am prio hQ) ?_)
     | (refine cC [] (oc t i Q.1 hi (by omega)) ?_)
     | (refine cC [] (lU a.name Q.2.1 hlen) ?_))
    | refine af ?_
    | exact ai|(refine ae fun hb=>?_;first|(exact (hN ⟨by omega,by assumption⟩).elim)|skip)
    | (refine eR (qf []) ?_;exact ab))
  ·obtain rfl:R=fA Q.2.2:=by rw [←hR];unfold bQ;rw [hq,hQ,hx,hN3];simp [hV,hf,he]
   clear hN3
   repeat' (first
    | refine ah ?_ ?_
    | (refine aa 9 rfl ?_;first
     | (refine cB [] (dg t) ?_)
     | (refine cB [] (cO t a.name hF) ?_)
     | (refine cC [] (n7 t (by omega) h8) ?_)
     | (refine cB [] (xM (az t) p) ?_)
     | (refine cC [] (AV t[i] p a.am prio hQ) ?_))
    | refine af ?_
    | exact ai|(refine ae fun hb=>?_;first|(exact (hN ⟨by omega,by assumption⟩).elim)|skip)
    | (refine eR (qf []) ?_;exact ab))
theorem EL (t:List Qu) (p:Pr) {R:List Qu×List Ev} (hR:bN t p=R):FSpec prog 195 [.one (.sl ji t),p.a] [] [] (.tup [.one (.sl ji R.1),.one (.sl ql R.2)]) []:=by
 refine aX func195 ?_
 cases hV:ez t with
 | false =>
  obtain rfl:R=([],[]):=by rw [←hR];simp [bN,hV]
  repeat' (first
   | refine ah ?_ ?_
   | refine aa 9 rfl (cB [] (dg t) ?_)
   | refine af ?_
   | exact ai|refine ae fun hb=>?_
   | (refine iG (qf []) ?_;exact ab))
 | true =>
  have hm:=(cm hV).1
  have hR2:aP p t=R:=by rw [←hR];simp [bN,hV]
  repeat' (first
   | refine ah ?_ ?_
   | refine aa 9 rfl (cB [] (dg t) ?_)
   | refine af ?_
   | exact ai|refine ae fun hb=>?_)
  refine cc 7 1000 296 ql rfl rfl rfl ?_
  refine ak (fun x:Nat×List Qu×List Ev=>x.1≤t.length∧x.2.1.length=x.1∧x.2.2.length≤18*x.1∧x.2.1++(aP p (t.drop x.1)).1=R.1∧x.2.2++(aP p (t.drop x.1)).2=R.2) (fun x=>bH [3,1000,1001] [(3,.c (.ptr 3 0)),(6,.c (.own 1001)),(7,.c (.own 1000)),(8,.i x.1)] [(3,.box 23 [.sc (.int .i64 p.site),.sc (.int .i64 p.inc),.sc (.int .i64 p.num)]),(1001,.arr 165 ji (x.2.1++t.drop x.1)),(1000,.arr 296 ql x.2.2)]) (fun x=>t.length-x.1) (0,[],[]) ⟨Nat.zero_le _,rfl,Nat.le_refl _,by rw [←hR2];rfl,by rw [←hR2];rfl⟩ (by exact ao (qf [(1001,17)])) ?_
  rintro ⟨i,o,ev⟩ ⟨hi,hol,hel,hs1,hs2⟩
  dsimp only at *
  have hlen:(o++t.drop i).length=t.length:=by simp;omega
  by_cases hlt:i<t.length
  ·obtain ⟨q,hq⟩:∃q,q=t[i]:=⟨_,rfl⟩
   have g6:(o++t.drop i)[i]? = some q:=by
    rw [List.getElem?_append_right (by omega),hol,Nat.sub_self,List.getElem?_drop]
    simp [hq,hlt]
   have hS:ar q=true:=dJ hV (hq▸List.getElem_mem hlt)
   rw [List.drop_eq_getElem_cons hlt,←hq] at hs1 hs2
   have e0:o++t.drop i=(o++[q])++t.drop (i+1):=by rw [List.drop_eq_getElem_cons hlt,←hq];simp
   cases hh:dT q p with
   | false =>
    rw [show aP p (q :: t.drop (i+1))=(q :: (aP p (t.drop (i+1))).1,(aP p (t.drop (i+1))).2) by simp [aP,hh]] at hs1 hs2
    repeat' (first
     | refine ah ?_ ?_
     | refine aa 9 rfl (cB [] (Cp q p) ?_)
     | refine af ?_
     | exact ai|refine ae fun hb=>?_)
    refine ⟨(i+1,o++[q],ev),⟨by dsimp only;omega,by simp;omega,by dsimp only;omega,by dsimp only;rw [←hs1];simp,hs2⟩,by dsimp only;omega,?_⟩
    dsimp only
    rw [←e0]
    exact ao (qf [])
   | true =>
    obtain ⟨Q,hQ⟩:∃Q,bd q p=Q:=⟨_,rfl⟩
    have hQl:=qp hS p
    rw [hQ] at hQl
    have hgl:(aY Q.1.res.name Q.2.1).length≤17:=by unfold aY;rw [List.length_map];exact hQl
    have hset:(o++t.drop i).set i Q.1=(o++[Q.1])++t.drop (i+1):=by
     have e9:(t.drop i).set 0 Q.1=Q.1 :: t.drop (i+1):=by rw [List.drop_eq_getElem_cons hlt];rfl
     rw [List.set_append_right _ _ (by omega),hol,Nat.sub_self,e9]
     simp
    cases hz:aO (aq q.holds p) with
    | true =>
     rw [show aP p (q :: t.drop (i+1))=(Q.1 :: (aP p (t.drop (i+1))).1,aY Q.1.res.name Q.2.1++(aP p (t.drop (i+1))).2) by simp [aP,hh,hQ,hz]] at hs1 hs2
     repeat' (first
      | refine ah ?_ ?_
      | (refine aa 9 rfl ?_;first
       | (refine cB [] (Cp q p) ?_)
       | (refine cB [] (eP q p) ?_)
       | (refine cB [] (fg (aq q.holds p)) ?_)
       | (refine cC [] (sg q p hQ) ?_)
       | (refine cC [] (lU Q.1.res.name Q.2.1 (by omega)) ?_))
      | refine af ?_
      | (refine aa 4 rfl ?_;refine bP (aI (z:=Q.1) rfl rfl rfl rfl (by first|assumption|exact List.getElem?_eq_getElem (by omega)) rfl rfl rfl rfl (Nat.le_of_ble_eq_true rfl) rfl rfl) rfl rfl rfl ?_)
      | exact ai|refine ae fun hb=>?_)
     refine ⟨(i+1,o++[Q.1],ev++aY Q.1.res.name Q.2.1),⟨by dsimp only;omega,by simp;omega,by simp;omega,by dsimp only;rw [←hs1];simp,by dsimp only;rw [←hs2];simp⟩,by dsimp only;omega,?_⟩
     dsimp only
     rw [←hset]
     exact ao (qf [(1000,70)])
    | false =>
     rw [show aP p (q :: t.drop (i+1))=(Q.1 :: (aP p (t.drop (i+1))).1,[⟨3,p,q.res.name,⟨0,0⟩⟩]++aY Q.1.res.name Q.2.1++(aP p (t.drop (i+1))).2) by simp [aP,hh,hQ,hz]] at hs1 hs2
     repeat' (first
      | refine ah ?_ ?_
      | (refine aa 8 rfl ?_;refine aM (aj rfl rfl (ax rfl rfl) (aB [⟨3,p,q.res.name,⟨0,0⟩⟩] rfl rfl rfl rfl) rfl aC aC) rfl rfl rfl ?_)
      | (refine aa 9 rfl ?_;first
       | (refine cB [] (Cp q p) ?_)
       | (refine cB [] (eP q p) ?_)
       | (refine cB [] (fg (aq q.holds p)) ?_)
       | (refine cC [] (sg q p hQ) ?_)
       | (refine cC [] (lU Q.1.res.name Q.2.1 (by omega)) ?_))
      | refine af ?_
      | (refine aa 4 rfl ?_;refine bP (aI (z:=Q.1) rfl rfl rfl rfl (by first|assumption|exact List.getElem?_eq_getElem (by omega)) rfl rfl rfl rfl (Nat.le_of_ble_eq_true rfl) rfl rfl) rfl rfl rfl ?_)
      | exact ai|refine ae fun hb=>?_)
     refine ⟨(i+1,o++[Q.1],ev++[⟨3,p,q.res.name,⟨0,0⟩⟩]++aY Q.1.res.name Q.2.1),⟨by dsimp only;omega,by simp;omega,by simp;omega,by dsimp only;rw [←hs1];simp,by dsimp only;rw [←hs2];simp⟩,by dsimp only;omega,?_⟩
     dsimp only
     rw [←hset]
     exact ao (qf [(1000,70)])
  ·have e:(o++t.drop i,ev)=R:=by
    rw [List.drop_eq_nil_of_le (by omega)] at hs1 hs2 ⊢
    simp [aP] at hs1 hs2
    rw [hs2,List.append_nil,hs1]
   repeat' (first
    | refine ah ?_ ?_
    | refine af ?_
    | exact ai|refine ae fun hb=>?_)
   rw [←e]
   refine iG (qf []) ?_;exact ab
theorem gu (n:ByteArray) (l:List Ho):(aY n l).length=l.length:=List.length_map ..
theorem qv (t:List Qu) (p:Pr) (n:ByteArray):(cM t p n).2.1.length≤17:=by
 unfold cM
 cases hV:ez t with
 | false=>simp [fA]
 | true =>
  by_cases hf:bK n 0 t<0
  ·simp [hf,fA]
  ·obtain ⟨i,hi,hF,hq,hx⟩:=f7 hf
   have:=qo (dJ hV (List.getElem_mem hi)) p
   rw [hq]
   cases decide ((bj t[i] p).2.2=0) with
   | false=>simp [hf,fA]
   | true=>simp [hf,gu];exact this
theorem fV (t:List Qu) (p:Pr) (a:Tm):(cn t p a).2.1.length≤18:=by
 unfold cn
 cases hV:ez t with
 | false=>simp [fA]
 | true =>
  by_cases hf:bK a.name 0 t<0
  ·simp [hf,fA]
  ·obtain ⟨i,hi,hF,hq,hx⟩:=f7 hf
   have:=sj (dJ hV (List.getElem_mem hi)) p a.am
   rw [hq]
   cases decide ((bL t[i] p a.am).2.2=0) with
   | false=>simp [hf,fA]
   | true =>
    cases decide (aq t[i].holds p=a.am) with
    | true=>simp [hf,gu];omega
    | false=>simp [hf,gu];omega
theorem wj {t:List Qu} {n:ByteArray} (h:aV t n=true):∃i,∃hi:i<t.length,bK n 0 t=(i:Int)∧bf t n=t[i]:=by
 have hf:¬bK n 0 t<0:=by simpa [aV] using h
 obtain ⟨i,hi,hF,hq,_⟩:=f7 hf
 exact ⟨i,hi,hF,hq⟩
theorem Ix (d:Nat) (w:Wk) (x:Pc) (n:ByteArray) (hV:ez w.c.queues=true) (hn:aV w.c.queues n=true) (hl:w.ev.length≤900000):FSpec prog 187 [jR,x.a d,.one (.sc (.string n))] (HI d w) [3,4] (.tup []) (HO d (bS w x n)):=by
 refine aX func187 ?_
 obtain ⟨i,hi,hF,hq⟩:=wj hn
 obtain ⟨l,hL⟩:∃l,aw x.led.entries n=l:=⟨_,rfl⟩
 have kL:=iO x.led.entries n
 rw [hL] at kL
 obtain ⟨o,hw⟩:∃o,ap w.c.queues[i] x.proc=o:=⟨_,rfl⟩
 have hcl:=qv w.c.queues x.proc n
 cases o with
 | none =>
  have e1:bS w x n=cI w x.proc n l:=by unfold bS ic;rw [hq,hw,hL];rfl
  rw [e1]
  obtain ⟨h,hh⟩:∃h,aq w.c.queues[i].holds x.proc=h:=⟨_,rfl⟩
  have kH:=eP w.c.queues[i] x.proc
  rw [hh] at kH
  have hll:=fV w.c.queues x.proc ⟨n,l⟩
  by_cases hhl:h=l
  ·rw [show cI w x.proc n l=w by unfold cI;rw [hq,hh];simp [hhl]]
   repeat' (first
    | refine ah ?_ ?_
    | (refine aa 9 rfl ?_;first
     | (refine cB [] (cO w.c.queues n hF) ?_)
     | (refine cB [] (bY w.c.queues[i] x.proc hw) ?_)
     | (refine cB [] (kL) ?_)
     | (refine cB [] (kH) ?_))
    | refine af ?_
    | exact ai|refine ae fun hb=>?_
    | (exact D7 (qf [(3,1),(4,2)])))
  ·obtain ⟨R,hR⟩:∃R,cn w.c.queues x.proc ⟨n,l⟩=R:=⟨_,rfl⟩
   rw [hR] at hll
   rw [show cI w x.proc n l=w.take R.1 R.2.1 by unfold cI eX;rw [hq,hh,hR];simp [hhl]]
   repeat' (first
    | refine ah ?_ ?_
    | (refine aa 9 rfl ?_;first
     | (refine cB [] (cO w.c.queues n hF) ?_)
     | (refine cB [] (bY w.c.queues[i] x.proc hw) ?_)
     | (refine cB [] (kL) ?_)
     | (refine cB [] (kH) ?_)
     | (refine cC [] (qV w.c.queues x.proc ⟨n,l⟩ hR) ?_)
     | (refine cH (qf [(3,1003),(4,1004)]) (qq d w R.1 R.2.1 (by omega)) ?_))
    | refine af ?_
    | exact ai|refine ae fun hb=>?_
    | (exact D7 (qf [(3,1003),(4,1004)])))
 | some m =>
  obtain ⟨C,hC⟩:∃C,cM w.c.queues x.proc n=C:=⟨_,rfl⟩
  have hts:=(sk (p:=x.proc) hV hn (by rw [hq,hw];rfl)).2.1
  rw [hC] at hts hcl
  have hF2:bK n 0 C.1=(i:Int):=by rw [lc n 0 hts.nm];exact hF
  have hi2:i<C.1.length:=by
   have:=congrArg List.length hts.nm
   simp [gj] at this
   omega
  have hq2:bf C.1 n=C.1[i]:=by
   obtain ⟨j,hj,hFj,hqj⟩:=wj (t:=C.1) (n:=n) (by simp [aV,hF2])
   have:j=i:=by rw [hF2] at hFj;omega
   subst this
   exact hqj
  have e1:bS w x n=cI (w.take C.1 C.2.1) x.proc n l:=by unfold bS ic lL;rw [hq,hw,hL,hC];rfl
  rw [e1]
  obtain ⟨h,hh⟩:∃h,aq C.1[i].holds x.proc=h:=⟨_,rfl⟩
  have kH:=eP C.1[i] x.proc
  rw [hh] at kH
  have hll:=fV C.1 x.proc ⟨n,l⟩
  have hi3:i<(w.take C.1 C.2.1).c.queues.length:=hi2
  have hgq:(w.take C.1 C.2.1).c.queues[i]? = some C.1[i]:=List.getElem?_eq_getElem hi2
  by_cases hhl:h=l
  ·rw [show cI (w.take C.1 C.2.1) x.proc n l=w.take C.1 C.2.1 by unfold cI;rw [show (w.take C.1 C.2.1).c.queues=C.1 from rfl,hq2,hh];simp [hhl]]
   repeat' (first
    | refine ah ?_ ?_
    | (refine aa 9 rfl ?_;first
     | (refine cB [] (cO w.c.queues n hF) ?_)
     | (refine cB [] (bY w.c.queues[i] x.proc hw) ?_)
     | (refine cC [] (xP w.c.queues x.proc n hC) ?_)
     | (refine cB [] (kL) ?_)
     | (refine cB [] (kH) ?_)
     | (refine cH (qf [(3,1003),(4,1004)]) (qq d w C.1 C.2.1 (by omega)) ?_))
    | refine af ?_
    | exact ai|refine ae fun hb=>?_
    | (exact D7 (qf [(3,1003),(4,1004)])))
  ·obtain ⟨R,hR⟩:∃R,cn C.1 x.proc ⟨n,l⟩=R:=⟨_,rfl⟩
   rw [hR] at hll
   have hev:(w.take C.1 C.2.1).ev.length+R.2.1.length≤1000000:=by simp [Wk.take];omega
   rw [show cI (w.take C.1 C.2.1) x.proc n l=(w.take C.1 C.2.1).take R.1 R.2.1 by unfold cI eX;rw [show (w.take C.1 C.2.1).c.queues=C.1 from rfl,hq2,hh,hR];simp [hhl]]
   repeat' (first
    | refine ah ?_ ?_
    | (refine aa 9 rfl ?_;first
     | (refine cB [] (cO w.c.queues n hF) ?_)
     | (refine cB [] (bY w.c.queues[i] x.proc hw) ?_)
     | (refine cC [] (xP w.c.queues x.proc n hC) ?_)
     | (refine cB [] (kL) ?_)
     | (refine cB [] (kH) ?_)
     | (refine cC [] (qV C.1 x.proc ⟨n,l⟩ hR) ?_)
     | (refine cH (qf [(3,1003),(4,1004)]) (qq d w C.1 C.2.1 (by omega)) ?_)
     | (refine cH (qf [(1,1003),(2,1004),(3,1005),(4,1006)]) (qq d (w.take C.1 C.2.1) R.1 R.2.1 hev) ?_))
    | refine af ?_
    | exact ai|refine ae fun hb=>?_
    | (exact D7 (qf [(3,1005),(4,1006)])))
def CA (x:Pc):List Tm→Wk→Prop
 | [],_=>True
 | a :: l,w=>ez w.c.queues=true∧aV w.c.queues a.name=true∧w.ev.length≤900000∧CA x l (bS w x a.name)
theorem pJ (d:Nat) (w:Wk) (i:Nat) (hi:i<w.c.procs.length) (hok:CA (w.pc i) (cP (w.pc i).req.expr) w) (hi2:i<(eC (w.pc i) (cP (w.pc i).req.expr) w).c.procs.length):FSpec prog 130 [jR,jX i] (HI d w) [3,4] (.tup []) (HO d (ay w i)):=by
 refine aX func130 ?_
 obtain ⟨x,hx⟩:∃x,w.c.procs[i]? = some x:=⟨_,List.getElem?_eq_getElem hi⟩
 have hpc:=jS hx
 unfold ay
 rw [hpc] at hok hi2 ⊢
 have h8:=dh x.req.expr
 obtain ⟨L,hL⟩:∃L,cP x.req.expr=L:=⟨_,rfl⟩
 rw [hL] at hok hi2 h8 ⊢
 obtain ⟨W,hW⟩:∃W,eC x L w=W:=⟨_,rfl⟩
 rw [hW] at hi2 ⊢
 repeat' (first
  | refine ah ?_ ?_
  | refine aa 9 rfl (cC [] (ja d x.req.expr hL) ?_)
  | refine af ?_
  | exact ai|refine ae fun hb=>?_)
 refine ak (fun y:Nat×Wk=>y.1≤L.length∧CA x (L.drop y.1) y.2∧eC x (L.drop y.1) y.2=W) (fun y=>bH [0,1,2,4,1010,1011] [(0,.v jR),(1,.v (jX i)),(4,.c (.ptr 4 0)),(5,.c (.sl cr L)),(6,.i y.1)] [(0,.box 169 (Da y.2 1010 1011)),(4,.box 38 (x.d d)),(1010,.arr 38 (tF d) y.2.c.procs),(1011,.arr 296 ql y.2.ev)]) (fun y=>L.length-y.1) (0,w) ⟨Nat.zero_le _,hok,hW⟩ (by exact ao (qf [(1010,1),(1011,2)])) ?_
 rintro ⟨k,v⟩ ⟨hk,hv,hs⟩
 dsimp only at *
 by_cases hlt:k<L.length
 ·rw [List.drop_eq_getElem_cons hlt] at hv hs
  obtain ⟨v1,v2,v3,v4⟩:=hv
  repeat' (first
   | refine ah ?_ ?_
   | refine aa 9 rfl (cH (qf [(1,1010),(2,1011),(3,1003),(4,1004)]) (Ix d v x L[k].name v1 v2 v3) ?_)
   | refine af ?_
   | exact ai|refine ae fun hb=>?_)
  refine ⟨(k+1,bS v x L[k].name),⟨by dsimp only;omega,v4,hs⟩,by dsimp only;omega,?_⟩
  exact ao (qf [(1010,1003),(1011,1004)])
 ·obtain rfl:v=W:=by rw [←hs,List.drop_eq_nil_of_le (by omega)];rfl
  repeat' (first
   | refine ah ?_ ?_
   | refine aa 9 rfl (cH (qf [(1,1010),(2,1011),(3,1005),(4,1006)]) (Ir d v i hi2) ?_)
   | refine af ?_
   | exact ai|refine ae fun hb=>?_
   | (exact D7 (qf [(3,1005),(4,1006)])))
def Ba (x:Pc) (i:Nat):List Tm→List Bool→Wk→Prop
 | a :: l,b :: bs,w=>ez w.c.queues=true∧aV w.c.queues a.name=true∧w.ev.length≤900000∧i<w.c.procs.length∧Ba x i l bs (bif b then iM w i x.proc a.name else bS w x a.name)
 | _,_,_=>True
def KK (v:Wk) (i:Nat):Wk:=dd (v.pc i) i (cP (v.pc i).req.expr) (cJ (v.pc i).req.expr (bC v.c.queues (v.pc i).proc (v.pc i).req.expr)) (v.note 2 (v.pc i).proc)
def StOk:Nat→Wk→Prop
 | 0,v=>v.c.procs.length≤100000∧eO v.c.queues 0 v.c.procs=none
 | n+1,v=>v.c.procs.length≤100000∧v.ev.length≤900000∧∀i,eO v.c.queues 0 v.c.procs=some i→i<v.c.procs.length∧i<(KK v i).c.procs.length∧
   Ba (v.pc i) i (cP (v.pc i).req.expr) (cJ (v.pc i).req.expr (bC v.c.queues (v.pc i).proc (v.pc i).req.expr)) (v.note 2 (v.pc i).proc)∧StOk n (jW v i)
theorem StOk.len {n:Nat} {v:Wk} (h:StOk n v):v.c.procs.length≤100000:=by cases n <;> exact h.1
theorem x9 (d:Nat) (w:Wk) (h8:w.c.procs.length≤100000) {o:Option Nat} (ho:eO w.c.queues 0 w.c.procs=o):FSpec prog 190 [jR] (HI d w) [3,4] (.i (KC o)) (HO d w):=ho▸sm d w h8
theorem gv (w:Wk) (i:Nat) (x:Pc):(w.setP i x).c.procs.length=w.c.procs.length:=List.length_set
theorem ma (d:Nat) (w:Wk) (n:Nat) (hok:StOk n w):FSpec prog 132 [jR] (HI d w) [3,4] (.tup []) (HO d (aU n w)):=by
 refine aX func132 ?_
 obtain ⟨W,hW⟩:∃W,aU n w=W:=⟨_,rfl⟩
 rw [hW]
 have h0:=hok.len
 repeat' (first
  | refine ah ?_ ?_
  | refine aa 9 rfl (cH (qf [(3,1003),(4,1004)]) (sm d w h0) ?_)
  | refine af ?_
  | exact ai|refine ae fun hb=>?_)
 refine ak (fun y:Nat×Wk=>StOk y.1 y.2∧aU y.1 y.2=W) (fun y=>bH [0,1,2,1010,1011] [(0,.v jR),(2,.i (KC (eO y.2.c.queues 0 y.2.c.procs)))] [(0,.box 169 (Da y.2 1010 1011)),(1010,.arr 38 (tF d) y.2.c.procs),(1011,.arr 296 ql y.2.ev)]) (fun y=>y.1) (n,w) ⟨hok,hW⟩ (by exact ao (qf [(1010,1003),(1011,1004)])) ?_
 rintro ⟨m,v⟩ ⟨hv,hs⟩
 dsimp only at *
 cases ho:eO v.c.queues 0 v.c.procs with
 | none =>
  obtain rfl:v=W:=by
   rw [←hs]
   cases m with
   | zero=>rfl
   | succ m=>simp [aU,ho]
  have hneg:KC none = -1:=rfl
  repeat' (first
   | refine ah ?_ ?_
   | refine af ?_
   | exact ai|(refine ae fun hb=>?_;first|(exact absurd hb (by decide))|skip)
   | (exact D7 (qf [(3,1010),(4,1011)])))
 | some i =>
  cases m with
  | zero=>rw [hv.2] at ho;cases ho
  | succ m =>
   obtain ⟨_,hev,hall⟩:=hv
   obtain ⟨hi,hi2,hfin,hnext⟩:=hall i ho
   rw [show aU (m+1) v=aU m (jW v i) by simp [aU,ho]] at hs
   obtain ⟨x,hx⟩:∃x,v.c.procs[i]? = some x:=⟨_,List.getElem?_eq_getElem hi⟩
   have hpc:=jS hx
   unfold KK at hi2
   have hfw:jW v i=be (el (dd (v.pc i) i (cP (v.pc i).req.expr) (cJ (v.pc i).req.expr (bC v.c.queues (v.pc i).proc (v.pc i).req.expr)) (v.note 2 (v.pc i).proc)) i) i:=rfl
   rw [hfw] at hs hnext
   clear hfw
   rw [hpc] at hi2 hfin hs hnext
   have h8:=dh x.req.expr
   obtain ⟨L,hL⟩:∃L,cP x.req.expr=L:=⟨_,rfl⟩
   have hgl:(bC v.c.queues x.proc x.req.expr).length≤1000:=by simp [bC];omega
   obtain ⟨keep,hkeep⟩:∃keep,cJ x.req.expr (bC v.c.queues x.proc x.req.expr)=keep:=⟨_,rfl⟩
   have hkl:keep.length=L.length:=by rw [←hkeep,ux,hL]
   have kP:=Jp d x.req.expr (bC v.c.queues x.proc x.req.expr) hgl
   rw [hkeep] at kP hi2 hfin hs hnext
   rw [hL] at hi2 hfin hs hnext h8
   obtain ⟨F,hF⟩:∃F,dd x i L keep (v.note 2 x.proc)=F:=⟨_,rfl⟩
   rw [hF] at hi2 hs hnext
   have hx1:KC (some i)=(i:Int):=rfl
   repeat' (first
    | refine ah ?_ ?_
    | (refine aa 9 rfl ?_;first
     | (refine cH (qf [(1,1010),(2,1011),(3,1003),(4,1004)]) (Eu d v 2 x.proc (by omega)) ?_)
     | (refine cC [] (ld d v.c.queues x.proc x.req.expr) ?_)
     | (refine cC [] (kP) ?_)
     | (refine cC [] (ja d x.req.expr hL) ?_))
    | refine af ?_
    | exact ai|(refine ae fun hb=>?_;first|(exact absurd hb (by rw [hx1];omega))|skip))
   refine ak (fun y:Nat×Wk=>y.1≤L.length∧Ba x i (L.drop y.1) (keep.drop y.1) y.2∧dd x i (L.drop y.1) (keep.drop y.1) y.2=F) (fun y=>bH [0,1,2,3,1020,1021] [(0,.v jR),(2,.i i),(3,.c (.ptr 3 0)),(4,.c (.sl eh keep)),(5,.c (.sl cr L)),(6,.i y.1)] [(0,.box 169 (Da y.2 1020 1021)),(3,.box 38 (x.d d)),(1020,.arr 38 (tF d) y.2.c.procs),(1021,.arr 296 ql y.2.ev)]) (fun y=>L.length-y.1) (0,v.note 2 x.proc) ⟨Nat.zero_le _,hfin,hF⟩ (by exact ao (qf [(1020,1003),(1021,1004)])) ?_
   rintro ⟨k,u⟩ ⟨hk,hu,hg⟩
   dsimp only at *
   by_cases hlt:k<L.length
   case neg =>
    obtain rfl:u=F:=by rw [←hg,List.drop_eq_nil_of_le (by omega),List.drop_eq_nil_of_le (by omega)];rfl
    obtain ⟨o2,ho2⟩:∃o2,eO (be (el u i) i).c.queues 0 (be (el u i) i).c.procs=o2:=⟨_,rfl⟩
    have hl2:i<(el u i).c.procs.length:=by rw [el,gv];exact hi2
    have hl3:=hnext.len
    repeat' (first
     | refine ah ?_ ?_
     | (refine aa 9 rfl ?_;first
      | (refine cH (qf [(1,1020),(2,1021),(3,1040),(4,1041)]) (Ir d u i hi2) ?_)
      | (refine cH (qf [(1,1040),(2,1041),(3,1050),(4,1051)]) (mR d (el u i) i hl2) ?_)
      | (refine cH (qf [(1,1050),(2,1051),(3,1060),(4,1061)]) (x9 d (be (el u i) i) hl3 ho2) ?_))
     | refine af ?_
     | exact ai|refine ae fun hb=>?_)
    refine ⟨(m,be (el u i) i),⟨hnext,hs⟩,by dsimp only;omega,?_⟩
    dsimp only
    rw [ho2]
    exact ao (qf [(1010,1060),(1011,1061)])
   rw [List.drop_eq_getElem_cons hlt,List.drop_eq_getElem_cons (l:=keep) (by omega)] at hu hg
   obtain ⟨u1,u2,u3,u4,u5⟩:=hu
   obtain ⟨b,hb1⟩:∃b,keep[k]'(by omega)=b:=⟨_,rfl⟩
   have hgb:keep[k]? = some b:=by rw [List.getElem?_eq_getElem (by omega),hb1]
   obtain ⟨a,ha⟩:∃a,L[k]=a:=⟨_,rfl⟩
   have hga:L[k]? = some a:=by rw [List.getElem?_eq_getElem hlt,ha]
   rw [hb1] at u5 hg
   rw [ha] at u2 u5 hg
   cases b with
   | false =>
    repeat' (first
     | refine ah ?_ ?_
     | refine aa 9 rfl (cH (qf [(1,1020),(2,1021),(3,1030),(4,1031)]) (Ix d u x a.name u1 u2 u3) ?_)
     | refine af ?_
     | exact ai|refine ae fun hb=>?_)
    refine ⟨(k+1,bS u x a.name),⟨by dsimp only;omega,u5,hg⟩,by dsimp only;omega,?_⟩
    exact ao (qf [(1020,1030),(1021,1031)])
   | true =>
    obtain ⟨j,hj,hFj,hqj⟩:=wj u2
    obtain ⟨y,hy⟩:∃y,u.c.procs[i]? = some y:=⟨_,List.getElem?_eq_getElem u4⟩
    have hpy:=jS hy
    obtain ⟨h,hh⟩:∃h,aq u.c.queues[j].holds x.proc=h:=⟨_,rfl⟩
    have kH:=eP u.c.queues[j] x.proc
    rw [hh] at kH
    obtain ⟨l,hll⟩:∃l,aw y.led.entries a.name=l:=⟨_,rfl⟩
    have kLh:=iO y.led.entries a.name
    rw [hll] at kLh
    have hrec:iM u i x.proc a.name=bif decide (h=l) then u else u.setP i { y with led:=(gI y.led ⟨a.name,l,h⟩).1 }:=by
     unfold iM
     rw [hqj,hh,hpy,hll]
    rw [show dd x i (a :: L.drop (k+1)) (true :: keep.drop (k+1)) u=dd x i (L.drop (k+1)) (keep.drop (k+1)) (iM u i x.proc a.name) from rfl,hrec] at hg
    rw [hrec] at u5
    by_cases hhl:h=l
    ·rw [decide_eq_true hhl,cond_true] at u5 hg
     repeat' (first
      | refine ah ?_ ?_
      | (refine aa 9 rfl ?_;first
       | (refine cB [] (cO u.c.queues a.name hFj) ?_)
       | (refine cB [] (kH) ?_)
       | (refine cB [] (kLh) ?_))
      | refine af ?_
      | exact ai|refine ae fun hb=>?_)
     refine ⟨(k+1,u),⟨by dsimp only;omega,u5,hg⟩,by dsimp only;omega,?_⟩
     exact ao (qf [])
    ·rw [decide_eq_false hhl,cond_false] at u5 hg
     obtain ⟨R,hR⟩:∃R,gI y.led ⟨a.name,l,h⟩=R:=⟨_,rfl⟩
     rw [hR] at u5 hg
     repeat' (first
      | refine ah ?_ ?_
      | (refine aa 9 rfl ?_;first
       | (refine cB [] (cO u.c.queues a.name hFj) ?_)
       | (refine cB [] (kH) ?_)
       | (refine cB [] (kLh) ?_)
       | (refine cC [] (Hc y.led ⟨a.name,l,h⟩ hR) ?_))
      | refine af ?_
      | (refine aa 4 rfl ?_;refine bP (aI (z:={ y with led:=R.1 }) rfl rfl rfl rfl hy rfl rfl rfl rfl (Nat.le_of_ble_eq_true rfl) rfl rfl) rfl rfl rfl ?_)
      | exact ai|refine ae fun hb=>?_)
     refine ⟨(k+1,u.setP i { y with led:=R.1 }),⟨by dsimp only;omega,u5,hg⟩,by dsimp only;omega,?_⟩
     exact ao (qf [])
def KL (l:List Pc):Prop:=∀x∈l,(-1000000000000≤x.since∧x.since≤1000000000000)∧-1000000000000≤x.req.limit∧x.req.limit≤1000000000000
theorem zQ (now:Int) (k:Nat) (x:Pc) (l:List Pc) (b:Int×Int):i8 now k (x :: l) b=i8 now (k+1) l (bif x.waiting && !decide (x.req.limit=0) && decide (x.since+x.req.limit≤now) && (decide (b.1<0) || decide (x.since+x.req.limit<b.2)) then ((k:Int),x.since+x.req.limit) else b):=rfl
theorem ya (d:Nat) (w:Wk) (h8:w.c.procs.length≤100000) (hx:KL w.c.procs):FSpec prog 183 [jR] (HI d w) [3,4] (.i (eY w)) (HO d w):=by
 refine aX func183 ?_
 obtain ⟨E,hE⟩:∃E,i8 w.c.now 0 w.c.procs (-1,0)=E:=⟨_,rfl⟩
 rw [show eY w=E.1 from congrArg Prod.fst hE]
 repeat' (first
  | refine ah ?_ ?_
  | refine af ?_
  | exact ai|refine ae fun hb=>?_)
 refine ak (fun y:Nat×Int×Int=>y.1≤w.c.procs.length∧i8 w.c.now y.1 (w.c.procs.drop y.1) y.2=E) (fun y=>bH [0,1,2] [(0,.v jR),(3,.i y.2.1),(4,.i y.2.2),(5,.i y.1)] [(0,.box 169 (Da w 1 2)),(1,.arr 38 (tF d) w.c.procs),(2,.arr 296 ql w.ev)]) (fun y=>w.c.procs.length-y.1) (0,-1,0) ⟨Nat.zero_le _,hE⟩ (by exact ao (qf [])) ?_
 rintro ⟨i,b⟩ ⟨hi,hs⟩
 dsimp only at *
 by_cases hlt:i<w.c.procs.length
 case neg =>
  obtain rfl:b=E:=by rw [←hs,List.drop_eq_nil_of_le (by omega)];rfl
  repeat' (first
   | refine ah ?_ ?_
   | refine af ?_
   | exact ai|refine ae fun hb=>?_
   | (refine aE (qf [(3,1),(4,2)]) ?_;exact ab))
 obtain ⟨x,hxe⟩:∃x,w.c.procs[i]=x:=⟨_,rfl⟩
 have hgx:w.c.procs[i]? = some x:=by rw [List.getElem?_eq_getElem hlt,hxe]
 obtain ⟨⟨k1,k2⟩,k3,k4⟩:=hx x (hxe▸List.getElem_mem hlt)
 rw [List.drop_eq_getElem_cons hlt,hxe,zQ] at hs
 by_cases hc:(x.waiting && !decide (x.req.limit=0) && decide (x.since+x.req.limit≤w.c.now) && (decide (b.1<0) || decide (x.since+x.req.limit<b.2)))=true
 ·rw [hc,cond_true] at hs
  simp only [Bool.and_eq_true,Bool.or_eq_true,Bool.not_eq_true',decide_eq_true_eq,decide_eq_false_iff_not] at hc
  obtain ⟨⟨⟨c1,c2⟩,c3⟩,c4⟩:=hc
  repeat' (first
   | refine ah ?_ ?_
   | refine af ?_
   | exact ai|refine ae fun hb=>?_)
  all_goals refine ⟨(i+1,(i:Int),x.since+x.req.limit),⟨by dsimp only;omega,hs⟩,by dsimp only;omega,?_⟩
  all_goals exact ao (qf [])
 ·rw [Bool.eq_false_iff.2 hc,cond_false] at hs
  repeat' (first
   | refine ah ?_ ?_
   | refine af ?_
   | exact ai|refine ae fun hb=>?_)
  all_goals first
   | (exfalso;refine hc ?_;simp only [Bool.and_eq_true,Bool.or_eq_true,Bool.not_eq_true',decide_eq_true_eq,decide_eq_false_iff_not];refine ⟨⟨⟨?_,?_⟩,?_⟩,?_⟩ <;> first|assumption|(left;assumption)|(right;assumption))
   | (refine ⟨(i+1,b),⟨by dsimp only;omega,hs⟩,by dsimp only;omega,?_⟩;exact ao (qf []))
def j0 (n:ByteArray) (E:List En) (i:Nat) (s:Sv):Sv:=⟨s.label,s.at_-((E.take (min i s.at_.toNat)).countP fun e=>!oth n e:Nat)⟩
theorem EM (n:ByteArray) (E:List En) (s:Sv):j0 n E 0 s=s:=by
 cases s;simp [j0]
theorem EN {n:ByteArray} {E:List En} {i:Nat} (hi:i<E.length) (h:oth n E[i]=true) (s:Sv):j0 n E (i+1) s=j0 n E i s:=by
 unfold j0
 by_cases hs:s.at_.toNat≤i
 ·rw [Nat.min_eq_right hs,Nat.min_eq_right (by omega)]
 ·rw [Nat.min_eq_left (by omega),Nat.min_eq_left (by omega),List.take_succ_eq_append_getElem hi,List.countP_append]
  simp [h]
theorem Hu {n:ByteArray} {E:List En} {i:Nat} {s:Sv} (hs:s.at_≤i):j0 n E (i+1) s=j0 n E i s:=by
 unfold j0
 rw [Nat.min_eq_right (by omega),Nat.min_eq_right (by omega)]
theorem EO {n:ByteArray} {E:List En} {i:Nat} (hi:i<E.length) (h:oth n E[i]=false) {s:Sv} (hs:(i:Int)<s.at_):j0 n E (i+1) s=⟨s.label,(j0 n E i s).at_-1⟩:=by
 unfold j0
 rw [Nat.min_eq_left (by omega),Nat.min_eq_left (by omega),List.take_succ_eq_append_getElem hi,List.countP_append]
 simp [h]
 omega
theorem Hw {n:ByteArray} {E:List En} {s:Sv} (h0:0≤s.at_) (h1:s.at_≤E.length):j0 n E E.length s=⟨s.label,((E.take s.at_.toNat).filter (oth n)).length⟩:=by
 unfold j0
 rw [Nat.min_eq_right (by omega),←List.countP_eq_length_filter]
 have h2:=List.length_eq_countP_add_countP (oth n) (l:=E.take s.at_.toNat)
 have h3:(E.take s.at_.toNat).length=s.at_.toNat:=by simp;omega
 congr 1
 have h4:(fun a=>decide ¬oth n a=true)=fun e=>!oth n e:=by funext e;cases oth n e <;> rfl
 rw [h4] at h2
 omega
theorem zR {n:ByteArray} {E:List En} {i:Nat} {s:Sv} (h0:0≤s.at_):0≤(j0 n E i s).at_∧(j0 n E i s).at_≤s.at_:=by
 unfold j0
 have:=List.countP_le_length (p:=fun e=>!oth n e) (l:=E.take (min i s.at_.toNat))
 rw [List.length_take] at this
 dsimp only
 omega
def Bb (n:ByteArray) (E:List En) (S:List Sv) (i k:Nat):List Sv:=(S.take k).map (j0 n E (i+1))++(S.drop k).map (j0 n E i)
theorem wk {n:ByteArray} {E:List En} {S:List Sv} {i k:Nat}:(Bb n E S i k).length=S.length:=by simp [Bb];omega
theorem EP {n:ByteArray} {E:List En} {S:List Sv} {i:Nat}:Bb n E S i 0=S.map (j0 n E i):=by simp [Bb]
theorem Hx {n:ByteArray} {E:List En} {S:List Sv} {i k:Nat} (h:S.length≤k):Bb n E S i k=S.map (j0 n E (i+1)):=by simp [Bb,List.take_of_length_le h,List.drop_eq_nil_of_le h]
theorem wl {n:ByteArray} {E:List En} {S:List Sv} {i k:Nat} (h:k≤S.length) (j:Nat):(Bb n E S i k)[j]? = S[j]?.map fun s=>if j<k then j0 n E (i+1) s else j0 n E i s:=by
 have hl:((S.take k).map (j0 n E (i+1))).length=k:=by rw [List.length_map,List.length_take];omega
 unfold Bb
 by_cases hj:j<k
 ·rw [List.getElem?_append_left (by omega),List.getElem?_map,List.getElem?_take_of_lt hj]
  simp [hj]
 ·rw [List.getElem?_append_right (by omega),hl,List.getElem?_map,List.getElem?_drop,show k+(j-k)=j by omega]
  simp [hj]
theorem ER {n:ByteArray} {E:List En} {S:List Sv} {i k:Nat} (h:k<S.length):(Bb n E S i k)[k]? = some (j0 n E i S[k]):=by
 rw [wl (by omega)]
 simp [h]
theorem Bc {n:ByteArray} {E:List En} {S:List Sv} {i k:Nat} (h:k<S.length) {z:Sv} (hz:j0 n E (i+1) S[k]=z):(Bb n E S i k).set k z=Bb n E S i (k+1):=by
 subst hz
 apply List.ext_getElem?
 intro j
 rw [List.getElem?_set,wk,wl (by omega),wl (by omega)]
 by_cases hj:k=j
 ·subst hj
  simp [h]
 ·rw [if_neg hj]
  have:(j<k↔j<k+1):=by omega
  simp [this]
theorem ET {n:ByteArray} {E:List En} {S:List Sv} {i k:Nat} (h:k<S.length) (hz:j0 n E (i+1) S[k]=j0 n E i S[k]):Bb n E S i k=Bb n E S i (k+1):=by
 rw [←Bc h rfl,hz]
 apply List.ext_getElem?
 intro j
 rw [List.getElem?_set]
 by_cases hj:k=j
 ·subst hj
  rw [ER h,wk]
  simp [h]
 ·rw [if_neg hj]
def KM (R:Lg×Bool):TV:=.tup [R.1.a,.one (.sc (.bool R.2))]
theorem JC (g:Lg) (n:ByteArray) {R:Lg×Bool} (hR:kv g n=R):FSpec prog 194 [g.a,.one (.sc (.string n))] [] [] (KM R) []:=by
 refine aX func194 ?_
 cases hV:qi g with
 | false =>
  obtain rfl:R=(.zero,false):=by rw [←hR];simp [kv,hV]
  repeat' (first
   | refine ah ?_ ?_
   | refine aa 9 rfl (cB [] (ce g) ?_)
   | refine af ?_
   | exact ai|refine ae fun hb=>?_
   | (refine iG (qf []) ?_;exact ab))
 | true =>
  obtain ⟨h1,h2⟩:=f8 hV
  have hat:=zK hV
  obtain ⟨E,hE⟩:∃E,g.entries=E:=⟨_,rfl⟩
  obtain ⟨S,hS⟩:∃S,g.saves=S:=⟨_,rfl⟩
  repeat' (first
   | refine ah ?_ ?_
   | refine aa 9 rfl (cB [] (ce g) ?_)
   | refine af ?_
   | exact ai|refine ae fun hb=>?_)
  refine fC 6 0 1000 112 iR rfl rfl rfl rfl ?_
  have hX:ia g n=⟨E.filter (oth n),S.map (j0 n E E.length)⟩:=by
   unfold ia
   rw [←hE,←hS]
   congr 1
   refine List.map_congr_left fun x hx=>?_
   obtain ⟨k1,k2⟩:=hat x hx
   exact (Hw k1 k2).symm
  have hatS:∀x∈S,0≤x.at_∧x.at_≤E.length:=by rw [←hE,←hS];exact hat
  have hst:kv g n=bif decide ((E.filter (oth n)).length=E.length) then (.zero,false) else (⟨E.filter (oth n),S.map (j0 n E E.length)⟩,true):=by
   unfold kv
   rw [hV,hX,hE]
   rfl
  rw [hst] at hR
  have hf72:∀i,((E.take i).filter (oth n)).length≤i:=fun i=>by
   have:=List.length_filter_le (oth n) (E.take i)
   rw [List.length_take] at this
   omega
  have hE72:E.length≤72:=by rw [←hE];exact h1
  have hS4:S.length≤4:=by rw [←hS];exact h2
  clear hat hst hX h1 hb
  refine ak (fun i=>i≤E.length) (fun i=>bH [2,4,6,13,1000,1001] [(1,.c (.sc (.string n))),(2,.c (.ptr 2 0)),(4,.c (.ptr 4 0)),(6,.c (.ptr 6 0)),(7,.i i)] [(2,.box 27 [.sl iR E,.sl iN S]),(4,.box 27 [.sc (.slice none 0 0),.sc (.slice none 0 0)]),(6,.box 27 [.own 1000,.own 1001]),(1000,.arr 112 iR ((E.take i).filter (oth n))),(1001,.arr 80 iN (S.map (j0 n E i)))]) (fun i=>E.length-i) 0 (Nat.zero_le _) (by rw [show j0 n E 0=id from funext (EM n E),List.map_id];subst hE hS;exact ao (qf [(1001,16)])) ?_
  rintro i hi
  try dsimp only at *
  by_cases hlt:i<E.length
  case neg =>
   obtain rfl:i=E.length:=by omega
   rw [List.take_length]
   by_cases hfl:(E.filter (oth n)).length=E.length
   ·obtain rfl:R=(.zero,false):=by rw [←hR,decide_eq_true hfl];rfl
    repeat' (first
     | refine ah ?_ ?_
     | refine af ?_
     | exact ai|(refine ae fun hb=>?_;first|(exact absurd (Int.ofNat.inj hb) (by omega))|skip)
     | (refine iG (qf []) ?_;exact ab))
   ·obtain rfl:R=(⟨E.filter (oth n),S.map (j0 n E E.length)⟩,true):=by rw [←hR,decide_eq_false hfl];rfl
    repeat' (first
     | refine ah ?_ ?_
     | refine af ?_
     | exact ai|(refine ae fun hb=>?_;first|(exact absurd (Int.ofNat.inj hb) hfl)|skip)
     | (refine iG (qf []) ?_;exact ab))
  obtain ⟨e,he⟩:∃e,E[i]=e:=⟨_,rfl⟩
  have hge:E[i]? = some e:=by rw [List.getElem?_eq_getElem hlt,he]
  by_cases hnm:e.name.toList=n.toList
  case neg =>
   have ho:oth n e=true:=by simp [oth,aT,hnm]
   have hf1:=hf72 i
   repeat' (first
    | refine ah ?_ ?_
    | (refine aa 8 rfl ?_;refine aM (aj rfl rfl (ax rfl rfl) (aB [e] rfl rfl rfl rfl) rfl aC aC) rfl rfl rfl ?_)
    | refine af ?_
    | exact ai|refine ae fun hb=>?_)
   refine ⟨i+1,by omega,by omega,?_⟩
   have e1:(E.take (i+1)).filter (oth n)=(E.take i).filter (oth n)++[e]:=by rw [List.take_succ_eq_append_getElem hlt,he,List.filter_append];simp [ho]
   have e2:S.map (j0 n E (i+1))=S.map (j0 n E i):=List.map_congr_left fun x _=>EN hlt (by rw [he];exact ho) x
   rw [e1,e2]
   exact ao (qf [(1000,41)])
  have ho:oth n e=false:=by simp [oth,aT,hnm]
  have ho':oth n E[i]=false:=by rw [he];exact ho
  have e1:(E.take (i+1)).filter (oth n)=(E.take i).filter (oth n):=by rw [List.take_succ_eq_append_getElem hlt,he,List.filter_append];simp [ho]
  repeat' (first
   | refine ah ?_ ?_
   | refine af ?_
   | exact ai|refine ae fun hb=>?_)
  refine ak (fun k=>k≤S.length) (fun k=>bH [2,4,6,13,1000,1001] [(1,.c (.sc (.string n))),(2,.c (.ptr 2 0)),(4,.c (.ptr 4 0)),(6,.c (.ptr 6 0)),(7,.i i),(8,.i k)] [(2,.box 27 [.sl iR E,.sl iN S]),(4,.box 27 [.sc (.slice none 0 0),.sc (.slice none 0 0)]),(6,.box 27 [.own 1000,.own 1001]),(1000,.arr 112 iR ((E.take i).filter (oth n))),(1001,.arr 80 iN (Bb n E S i k))]) (fun k=>S.length-k) 0 (Nat.zero_le _) (by rw [EP];exact ao (qf [])) ?_
  rintro k hk
  try dsimp only at *
  have hdl:=wk (n:=n) (E:=E) (S:=S) (i:=i) (k:=k)
  by_cases hlk:k<S.length
  case neg =>
   have hend:=Hx (n:=n) (E:=E) (S:=S) (i:=i) (k:=k) (by omega)
   rw [hend] at hdl ⊢
   clear hend
   repeat' (first
    | refine ah ?_ ?_
    | refine af ?_
    | exact ai|refine ae fun hb=>?_)
   refine ⟨i+1,by omega,by omega,?_⟩
   rw [e1]
   exact ao (qf [])
  obtain ⟨x,hx⟩:∃x,S[k]=x:=⟨_,rfl⟩
  have hgx:S[k]? = some x:=by rw [List.getElem?_eq_getElem hlk,hx]
  have hgd:=ER (n:=n) (E:=E) (i:=i) hlk
  rw [hx] at hgd
  obtain ⟨k1,k2⟩:=hatS x (hx▸List.getElem_mem hlk)
  have hyb:=zR (n:=n) (E:=E) (i:=i) k1
  obtain ⟨y,hy⟩:∃y,j0 n E i x=y:=⟨_,rfl⟩
  by_cases hgt:(i:Int)<x.at_
  ·have hz:j0 n E (i+1) x=⟨x.label,y.at_-1⟩:=by rw [EO hlt ho' hgt,hy]
   have hyl:y.label=x.label:=by rw [←hy];rfl
   rw [hy] at hgd hyb
   have hset:=Bc (i:=i) (n:=n) (E:=E) hlk (z:=⟨y.label,y.at_-1⟩) (by rw [hx,hz,hyl])
   repeat' (first
    | refine ah ?_ ?_
    | refine af ?_
    | (refine aa 4 rfl ?_;refine bP (aI (z:=⟨y.label,y.at_-1⟩) rfl rfl rfl rfl hgd rfl rfl rfl rfl (Nat.le_of_ble_eq_true rfl) rfl rfl) rfl rfl rfl ?_)
    | exact ai|refine ae fun hb=>?_)
   refine ⟨k+1,by omega,by omega,?_⟩
   rw [←hset]
   exact ao (qf [])
  ·have hsm:=ET (n:=n) (E:=E) (i:=i) hlk (by rw [hx];exact Hu (by omega))
   repeat' (first
    | refine ah ?_ ?_
    | refine af ?_
    | exact ai|refine ae fun hb=>?_)
   refine ⟨k+1,by omega,by omega,?_⟩
   rw [←hsm]
   exact ao (qf [])
def Iy (w:Wk) (i:Nat) (n:ByteArray):Prop:=i<w.c.procs.length∧w.ev.length≤900000∧((w.pc i).waiting=false→aw (w.pc i).led.entries n≠⟨0,0⟩→StOk (qM w i n).c.procs.length (qM w i n))
theorem zS (w:Wk) (i:Nat) (n:ByteArray):dZ w i n=bif (w.pc i).waiting then (w,14) else bif decide (aw (w.pc i).led.entries n=⟨0,0⟩) then (w,10) else (aU (qM w i n).c.procs.length (qM w i n),0):=rfl
theorem EU (d:Nat) (w:Wk) (i:Nat) (n:ByteArray) (hok:Iy w i n) {Z:Wk×Int} (hZ:dZ w i n=Z):FSpec prog 133 [jR,jX i,.one (.sc (.string n))] (HI d w) [3,4] (.i Z.2) (HO d Z.1):=by
 refine aX func133 ?_
 obtain ⟨hi,hev,hst⟩:=hok
 obtain ⟨x,hx⟩:∃x,w.c.procs[i]? = some x:=⟨_,List.getElem?_eq_getElem hi⟩
 have hpc:=jS hx
 rw [zS] at hZ
 unfold qM at hZ hst
 rw [hpc] at hZ hst
 cases hw:x.waiting with
 | true =>
  obtain rfl:Z=(w,14):=by rw [←hZ,hw];rfl
  repeat' (first
   | refine ah ?_ ?_
   | refine af ?_
   | exact ai|(refine ae fun hb=>?_;first|(cases hw.symm.trans hb;done)|skip)
   | (refine aE (qf [(3,1),(4,2)]) ?_;exact ab))
 | false =>
  obtain ⟨l,hl⟩:∃l,aw x.led.entries n=l:=⟨_,rfl⟩
  have kL:=iO x.led.entries n
  rw [hw,hl,cond_false] at hZ
  rw [hl] at hst kL
  by_cases h0:l=⟨0,0⟩
  ·obtain rfl:Z=(w,10):=by rw [←hZ,decide_eq_true h0];rfl
   repeat' (first
    | refine ah ?_ ?_
    | refine aa 9 rfl (cB [] (kL) ?_)
    | refine af ?_
    | exact ai|(refine ae fun hb=>?_;first|(cases hw.symm.trans hb;done)|(exact absurd h0 hb)|skip)
    | (refine aE (qf [(3,1),(4,2)]) ?_;exact ab))
  ·have hs:=hst hw h0
   rw [decide_eq_false h0,cond_false] at hZ
   obtain ⟨R,hR⟩:∃R,cn w.c.queues x.proc ⟨n,⟨0,0⟩⟩=R:=⟨_,rfl⟩
   have hll:=fV w.c.queues x.proc ⟨n,⟨0,0⟩⟩
   rw [hR] at hll
   obtain ⟨D0,hD⟩:∃D0,kv x.led n=D0:=⟨_,rfl⟩
   unfold eX at hZ hs
   rw [hR,hD] at hZ hs
   have hvi:i<((w.take R.1 R.2.1).setP i { x with led:=D0.1 }).c.procs.length:=by rw [gv];exact hi
   have hgt:(w.take R.1 R.2.1).c.procs.length=w.c.procs.length:=rfl
   obtain ⟨F,hF⟩:∃F,aU (be ((w.take R.1 R.2.1).setP i { x with led:=D0.1 }) i).c.procs.length (be ((w.take R.1 R.2.1).setP i { x with led:=D0.1 }) i)=F:=⟨_,rfl⟩
   obtain rfl:Z=(F,0):=by rw [←hZ];exact congrArg (fun z=>(z,(0:Int))) hF
   have kS:=ma d _ _ hs
   rw [show aU (be ((w.take R.1 R.2.1).setP i { x with led:=D0.1 }) i).c.procs.length (be ((w.take R.1 R.2.1).setP i { x with led:=D0.1 }) i)=F from hF] at kS
   clear hZ hst hF
   repeat' (first
    | refine ah ?_ ?_
    | (refine aa 9 rfl ?_;first
     | (refine cB [] (kL) ?_)
     | (refine cC [] (qV w.c.queues x.proc ⟨n,⟨0,0⟩⟩ hR) ?_)
     | (refine cH (qf [(3,1003),(4,1004)]) (qq d w R.1 R.2.1 (by omega)) ?_)
     | (refine cC [] (JC x.led n hD) ?_)
     | (refine cH (qf [(1,1003),(2,1004),(3,1005),(4,1006)]) (mR d ((w.take R.1 R.2.1).setP i { x with led:=D0.1 }) i hvi) ?_)
     | (refine cH (qf [(1,1005),(2,1006),(3,1007),(4,1008)]) (kS) ?_))
    | refine af ?_
    | (refine aa 4 rfl ?_;refine bP (aI (z:={ x with led:=D0.1 }) rfl rfl rfl rfl hx rfl rfl rfl rfl (Nat.le_of_ble_eq_true rfl) rfl rfl) rfl rfl rfl ?_)
    | exact ai|(refine ae fun hb=>?_;first|(cases hw.symm.trans hb;done)|(exact absurd hb h0)|skip)
    | (refine aE (qf [(3,1007),(4,1008)]) ?_;exact ab))
   all_goals fail "stands"
theorem qw (w:Wk) (x:Pc) (n:ByteArray):(bS w x n).c.procs=w.c.procs:=by
 unfold bS cI
 have h1:(ic w x.proc n).c.procs=w.c.procs:=by unfold ic;cases (ap (bf w.c.queues n) x.proc).isSome <;> rfl
 cases decide (aq (bf (ic w x.proc n).c.queues n).holds x.proc=aw x.led.entries n)
 ·exact h1
 ·exact h1
theorem di (x:Pc):∀(l:List Tm) (w:Wk),(eC x l w).c.procs=w.c.procs
 | [],_=>rfl
 | a :: l,w=>(di x l (bS w x a.name)).trans (qw w x a.name)
def EV (p:Pr):List Tm→Wk→Prop
 | [],_=>True
 | a :: l,w=>aV w.c.queues a.name=true∧w.ev.length≤900000∧EV p l (cI w p a.name a.am)
theorem yb (w:Wk) (p:Pr) (n:ByteArray) (l:Am):(cI w p n l).c.procs=w.c.procs:=by
 unfold cI
 cases decide (aq (bf w.c.queues n).holds p=l) <;> rfl
theorem my (p:Pr):∀(l:List Tm) (w:Wk),(cj p l w).c.procs=w.c.procs
 | [],_=>rfl
 | a :: l,w=>(my p l (cI w p a.name a.am)).trans (yb w p a.name a.am)
def Iz (w:Wk) (i:Nat) (n:Int):Prop:=i<w.c.procs.length∧((b9 (w.pc i).led n).2.2=0→((w.pc i).waiting=true→CA (w.pc i) (cP (w.pc i).req.expr) w)∧EV (w.pc i).proc (b9 (w.pc i).led n).2.1 (xX w i n)∧StOk (pC w i n).c.procs.length (pC w i n))
theorem yc (w:Wk) (i:Nat) (n:Int):cZ w i n=bif !decide ((b9 (w.pc i).led n).2.2=0) then (w,(b9 (w.pc i).led n).2.2) else (aU (pC w i n).c.procs.length (pC w i n),0):=rfl
theorem Hy {w:Wk} {i:Nat} {x:Pc} (hx:w.c.procs[i]? = some x):∃y,(pB w i).c.procs[i]? = some y∧y.proc=x.proc:=by
 have hi:=(List.getElem?_eq_some_iff.1 hx).1
 unfold pB
 cases (w.pc i).waiting with
 | false=>exact ⟨x,hx,rfl⟩
 | true =>
  refine ⟨{ (eC (w.pc i) (cP (w.pc i).req.expr) w).pc i with waiting:=false,req:=Rq.zero,since:=0 },?_,?_⟩
  ·show (List.set _ _ _)[i]? = _
   rw [List.getElem?_set_self (by rw [di];exact hi)]
  ·show ((eC (w.pc i) (cP (w.pc i).req.expr) w).pc i).proc=x.proc
   unfold Wk.pc
   rw [di,List.getD_eq_getElem?_getD,hx]
   rfl
theorem EW (w:Wk) (i:Nat):(pB w i).c.procs.length=w.c.procs.length:=by
 unfold pB
 cases (w.pc i).waiting with
 | false=>rfl
 | true=>show (ay w i).c.procs.length=_;unfold ay el;rw [gv,di]
theorem CB (g:Lg) (n:Int):(b9 g n).2.1.length≤72:=by
 unfold b9
 cases hV:qi g with
 | false=>simp
 | true =>
  have h1:=(f8 hV).1
  rw [Bool.not_true,cond_false]
  cases (!decide (n=0) && decide (aJ n 0 g.saves<0)) with
  | true=>simp
  | false =>
   rw [cond_false]
   simp only [List.length_map]
   have:=gp (g.entries.drop (bp g n).entries.length) []
   simp at this
   unfold br
   omega
theorem CC (d:Nat) (w:Wk) (i:Nat) (n:Int) (hok:Iz w i n) {Z:Wk×Int} (hZ:cZ w i n=Z):FSpec prog 135 [jR,jX i,jX n] (HI d w) [3,4] (.i Z.2) (HO d Z.1):=by
 refine aX func135 ?_
 obtain ⟨hi,hst⟩:=hok
 obtain ⟨x,hx⟩:∃x,w.c.procs[i]? = some x:=⟨_,List.getElem?_eq_getElem hi⟩
 have hpc:=jS hx
 rw [yc] at hZ
 obtain ⟨y,hy,hyp⟩:=Hy hx
 have hyc:=jS hy
 have hal:=EW w i
 unfold pC at hZ hst
 unfold xX at hZ hst
 rw [hyc,hpc] at hZ hst
 obtain ⟨U,hU⟩:∃U,b9 x.led n=U:=⟨_,rfl⟩
 rw [hU] at hZ hst
 have kU:=Is x.led n hU
 by_cases h0:U.2.2=0
 case neg =>
  obtain rfl:Z=(w,U.2.2):=by rw [←hZ,decide_eq_false h0];rfl
  repeat' (first
   | refine ah ?_ ?_
   | refine aa 9 rfl (cC [] (kU) ?_)
   | refine af ?_
   | exact ai|(refine ae fun hb=>?_;first|(exact absurd hb h0)|skip)
   | (refine aE (qf [(3,1),(4,2)]) ?_;exact ab))
 obtain ⟨hdr,hlw,hs⟩:=hst h0
 rw [decide_eq_true h0] at hZ
 obtain ⟨A,hA⟩:∃A,pB w i=A:=⟨_,rfl⟩
 rw [hA] at hZ hlw hs hy hal
 clear hst hyc
 have kS:=ma d _ _ hs
 obtain ⟨F,hF⟩:∃F,aU (be (cj x.proc U.2.1 (A.setP i { y with led:=U.1 })) i).c.procs.length (be (cj x.proc U.2.1 (A.setP i { y with led:=U.1 })) i)=F:=⟨_,rfl⟩
 obtain rfl:Z=(F,0):=by rw [←hZ];exact congrArg (fun z=>(z,(0:Int))) hF
 rw [hF] at kS
 clear hZ hF hs
 obtain ⟨B,hB⟩:∃B,A.setP i { y with led:=U.1 } = B:=⟨_,rfl⟩
 rw [hB] at hlw kS
 obtain ⟨W,hW⟩:∃W,cj x.proc U.2.1 B=W:=⟨_,rfl⟩
 rw [hW] at kS
 have hWl:i<W.c.procs.length:=by rw [←hW,my,←hB,gv,hal];exact hi
 have hyi:i<A.c.procs.length:=by rw [hal];exact hi
 have hUl:U.2.1.length≤72:=by rw [←hU];exact CB x.led n
 obtain ⟨L,hL⟩:∃L,U.2.1=L:=⟨_,rfl⟩
 rw [hL] at hUl hlw hW
 rw [←hyp] at hlw hW
 obtain ⟨Q,hQ⟩:∃Q,y.proc=Q:=⟨_,rfl⟩
 rw [hQ] at hlw hW
 cases hw:x.waiting
 case' true =>
  obtain rfl:ay w i=A:=by rw [←hA];unfold pB;rw [hpc,hw];rfl
  have kW:=pJ d w i hi (by rw [hpc];exact hdr hw) (by rw [di];exact hi)
  repeat' (first
   | refine ah ?_ ?_
   | (refine aa 9 rfl ?_;first
    | (refine cC [] (kU) ?_)
    | (refine cH (qf [(3,1003),(4,1004)]) (kW) ?_))
   | refine af ?_
   | (refine aa 4 rfl ?_;refine bP (aI (z:={ y with led:=U.1 }) rfl rfl rfl rfl hy rfl rfl rfl rfl (Nat.le_of_ble_eq_true rfl) rfl rfl) rfl rfl rfl ?_)
   | exact ai|(refine ae fun hb=>?_;first|(cases hw.symm.trans hb;done)|(exact absurd h0 hb)|skip))
  refine ak (fun y:Nat×Wk=>y.1≤L.length∧EV Q (L.drop y.1) y.2∧cj Q (L.drop y.1) y.2=W) (fun y=>bH [0,1,2,7,10,1010,1011] [(0,.v jR),(1,.v (jX i)),(8,.c (.sl cr L)),(10,.c (.ptr 10 0)),(11,.i y.1)] [(0,.box 169 (Da y.2 1010 1011)),(10,.box 23 [.sc (.int .i64 Q.site),.sc (.int .i64 Q.inc),.sc (.int .i64 Q.num)]),(1010,.arr 38 (tF d) y.2.c.procs),(1011,.arr 296 ql y.2.ev)]) (fun y=>L.length-y.1) (0,B) ⟨Nat.zero_le _,hlw,hW⟩ (by subst hB hL hQ;exact ao (qf [(1010,1003),(1011,1004)])) ?_
 case' false =>
  obtain rfl:w=A:=by rw [←hA];unfold pB;rw [hpc,hw];rfl
  have hxy:y=x:=by rw [hx] at hy;exact (Option.some.inj hy).symm
  subst hxy
  repeat' (first
   | refine ah ?_ ?_
   | refine aa 9 rfl (cC [] (kU) ?_)
   | refine af ?_
   | (refine aa 4 rfl ?_;refine bP (aI (z:={ y with led:=U.1 }) rfl rfl rfl rfl hy rfl rfl rfl rfl (Nat.le_of_ble_eq_true rfl) rfl rfl) rfl rfl rfl ?_)
   | exact ai|(refine ae fun hb=>?_;first|(cases hw.symm.trans hb;done)|(exact absurd h0 hb)|skip))
  refine ak (fun y:Nat×Wk=>y.1≤L.length∧EV Q (L.drop y.1) y.2∧cj Q (L.drop y.1) y.2=W) (fun y=>bH [0,1,2,7,10,1010,1011] [(0,.v jR),(1,.v (jX i)),(8,.c (.sl cr L)),(10,.c (.ptr 10 0)),(11,.i y.1)] [(0,.box 169 (Da y.2 1010 1011)),(10,.box 23 [.sc (.int .i64 Q.site),.sc (.int .i64 Q.inc),.sc (.int .i64 Q.num)]),(1010,.arr 38 (tF d) y.2.c.procs),(1011,.arr 296 ql y.2.ev)]) (fun y=>L.length-y.1) (0,B) ⟨Nat.zero_le _,hlw,hW⟩ (by subst hB hL hQ;exact ao (qf [(1010,1),(1011,2)])) ?_
 all_goals
  clear kU hU hpc hx hy hB hA hal hdr hyi hw
  try clear kW
  rintro ⟨k,v⟩ ⟨hk,hv,hs⟩
  dsimp only at *
  by_cases hlt:k<L.length
  case neg =>
   obtain rfl:v=W:=by rw [←hs,List.drop_eq_nil_of_le (by omega)];rfl
   repeat' (first
    | refine ah ?_ ?_
    | (refine aa 9 rfl ?_;first
     | (refine cH (qf [(1,1010),(2,1011),(3,1020),(4,1021)]) (mR d v i hWl) ?_)
     | (refine cH (qf [(1,1020),(2,1021),(3,1030),(4,1031)]) (kS) ?_))
    | refine af ?_
    | exact ai|refine ae fun hb=>?_
    | (refine aE (qf [(3,1030),(4,1031)]) ?_;exact ab))
  rw [List.drop_eq_getElem_cons hlt] at hv hs
  obtain ⟨a,ha⟩:∃a,L[k]=a:=⟨_,rfl⟩
  have hga:L[k]? = some a:=by rw [List.getElem?_eq_getElem hlt,ha]
  rw [ha] at hv hs
  obtain ⟨v1,v2,v3⟩:=hv
  obtain ⟨j,hj,hFj,hqj⟩:=wj v1
  obtain ⟨h,hh⟩:∃h,aq v.c.queues[j].holds Q=h:=⟨_,rfl⟩
  have kH:=eP v.c.queues[j] Q
  rw [hh] at kH
  have hs:cj Q (L.drop (k+1)) (cI v Q a.name a.am)=W:=hs
  have hbe:cI v Q a.name a.am=bif decide (h=a.am) then v else eX v Q ⟨a.name,a.am⟩:=by unfold cI;rw [hqj,hh]
  rw [hbe] at v3 hs
  by_cases hhl:h=a.am
  ·rw [decide_eq_true hhl,cond_true] at v3 hs
   repeat' (first
    | refine ah ?_ ?_
    | (refine aa 9 rfl ?_;first
     | (refine cB [] (cO v.c.queues a.name hFj) ?_)
     | (refine cB [] (kH) ?_))
    | refine af ?_
    | exact ai|refine ae fun hb=>?_)
   refine ⟨(k+1,v),⟨by dsimp only;omega,v3,hs⟩,by dsimp only;omega,?_⟩
   exact ao (qf [])
  ·rw [decide_eq_false hhl,cond_false] at v3 hs
   obtain ⟨R,hR⟩:∃R,cn v.c.queues Q a=R:=⟨_,rfl⟩
   have hll:=fV v.c.queues Q a
   rw [hR] at hll
   have hlw:eX v Q ⟨a.name,a.am⟩=v.take R.1 R.2.1:=by rw [←hR];rfl
   rw [hlw] at v3 hs
   repeat' (first
    | refine ah ?_ ?_
    | (refine aa 9 rfl ?_;first
     | (refine cB [] (cO v.c.queues a.name hFj) ?_)
     | (refine cB [] (kH) ?_)
     | (refine cC [] (qV v.c.queues Q a hR) ?_)
     | (refine cH (qf [(1,1010),(2,1011),(3,1020),(4,1021)]) (qq d v R.1 R.2.1 (by omega)) ?_))
    | refine af ?_
    | exact ai|refine ae fun hb=>?_)
   refine ⟨(k+1,v.take R.1 R.2.1),⟨by dsimp only;omega,v3,hs⟩,by dsimp only;omega,?_⟩
   exact ao (qf [(1010,1020),(1011,1021)])
theorem wm (w:Wk) (i:Nat):(ay w i).c.procs.length=w.c.procs.length:=by unfold ay el;rw [gv,di]
def IA (w:Wk):Wk:=be (ay (w.note 4 (w.pc (eY w).toNat).proc) (eY w).toNat) (eY w).toNat
def TkOk:Nat→Wk→Prop
 | 0,w=>w.c.procs.length≤100000∧KL w.c.procs∧eY w<0
 | n+1,w=>w.c.procs.length≤100000∧KL w.c.procs∧(0≤eY w→w.ev.length≤900000∧(eY w).toNat<w.c.procs.length∧
   CA (w.pc (eY w).toNat) (cP (w.pc (eY w).toNat).req.expr) (w.note 4 (w.pc (eY w).toNat).proc)∧StOk (IA w).c.procs.length (IA w)∧TkOk n (aU (IA w).c.procs.length (IA w)))
theorem TkOk.len {n:Nat} {v:Wk} (h:TkOk n v):v.c.procs.length≤100000∧KL v.c.procs:=by cases n <;> exact ⟨h.1,h.2.1⟩
theorem sK (n:Nat) (w:Wk):iF (n+1) w=bif decide (eY w<0) then w else iF n (aU (IA w).c.procs.length (IA w)):=rfl
def Ka (w:Wk) (n:Int):Wk:=⟨{ w.c with now:=w.c.now+n },w.ev⟩
theorem Hz (w:Wk) (n:Int):jQ w n=bif !(decide (0≤n) && decide (n≤1000)) then (w,1) else bif decide (1073741824-n<w.c.now) then (w,16) else (iF w.c.procs.length (Ka w n),0):=rfl
theorem KP (d:Nat) (w:Wk) (n:Int) (h0 : -1000000000000≤w.c.now) (hok:0≤n→n≤1000→w.c.now≤1073741824-n→TkOk w.c.procs.length (Ka w n)) {Z:Wk×Int} (hZ:jQ w n=Z):FSpec prog 128 [jR,jX n] (HI d w) [3,4] (.i Z.2) (HO d Z.1):=by
 refine aX func128 ?_
 rw [Hz] at hZ
 by_cases h1:0≤n∧n≤1000
 case neg =>
  obtain rfl:Z=(w,1):=by
   rw [←hZ,show (decide (0≤n) && decide (n≤1000))=false by rw [Bool.and_eq_false_iff];simp;omega]
   rfl
  repeat' (first
   | refine ah ?_ ?_
   | refine af ?_
   | exact ai|refine ae fun hb=>?_
   | (refine aE (qf [(3,1),(4,2)]) ?_;exact ab))
 obtain ⟨h1,h2⟩:=h1
 rw [decide_eq_true h1,decide_eq_true h2] at hZ
 by_cases h3:1073741824-n<w.c.now
 ·obtain rfl:Z=(w,16):=by rw [←hZ,decide_eq_true h3];rfl
  repeat' (first
   | refine ah ?_ ?_
   | refine af ?_
   | exact ai|refine ae fun hb=>?_
   | (refine aE (qf [(3,1),(4,2)]) ?_;exact ab))
 ·obtain ⟨V,hV⟩:∃V,Ka w n=V:=⟨_,rfl⟩
  have hk:=hok h1 h2 (by omega)
  obtain ⟨W,hW⟩:∃W,iF w.c.procs.length (Ka w n)=W:=⟨_,rfl⟩
  obtain rfl:Z=(W,0):=by rw [←hZ,decide_eq_false h3,hW];rfl
  obtain ⟨k1,k2⟩:=hk.len
  repeat' (first
   | refine ah ?_ ?_
   | refine aa 9 rfl (cH (qf [(1,1),(2,2),(3,1003),(4,1004)]) (ya d (Ka w n) k1 k2) ?_)
   | refine af ?_
   | exact ai|refine ae fun hb=>?_)
  refine ak (fun y:Nat×Wk=>TkOk y.1 y.2∧iF y.1 y.2=W) (fun y=>bH [0,1,2,1010,1011] [(0,.v jR),(5,.i (eY y.2))] [(0,.box 169 (Da y.2 1010 1011)),(1010,.arr 38 (tF d) y.2.c.procs),(1011,.arr 296 ql y.2.ev)]) (fun y=>y.1) (w.c.procs.length,Ka w n) ⟨hk,hW⟩ (by exact ao (qf [(1010,1003),(1011,1004)])) ?_
  clear hk hW hok hV k1 k2 hZ
  rintro ⟨m,v⟩ ⟨hv,hs⟩
  dsimp only at *
  obtain ⟨e,he⟩:∃e,eY v=e:=⟨_,rfl⟩
  by_cases hneg:e<0
  ·obtain rfl:v=W:=by
    rw [←hs]
    cases m with
    | zero=>rfl
    | succ m=>rw [sK,he,decide_eq_true hneg];rfl
   rw [he]
   repeat' (first
    | refine ah ?_ ?_
    | refine af ?_
    | exact ai|refine ae fun hb=>?_
    | (refine aE (qf [(3,1010),(4,1011)]) ?_;exact ab))
  ·cases m with
   | zero=>exact absurd (he▸hv.2.2) hneg
   | succ m =>
    obtain ⟨_,_,hall⟩:=hv
    rw [sK,he,decide_eq_false hneg,cond_false] at hs
    unfold IA at hall hs
    rw [he] at hall hs ⊢
    obtain ⟨u1,u2,u3,u4,u5⟩:=hall (by omega)
    obtain ⟨i,hi⟩:∃i:Nat,e=(i:Int):=⟨e.toNat,by omega⟩
    subst hi
    simp only [Int.toNat_natCast] at u2 u3 u4 u5 hs
    obtain ⟨x,hx⟩:∃x,v.c.procs[i]? = some x:=⟨_,List.getElem?_eq_getElem u2⟩
    have hpc:=jS hx
    rw [hpc] at u3 u4 u5 hs
    obtain ⟨N0,hN⟩:∃N0,v.note 4 x.proc=N0:=⟨_,rfl⟩
    have kN:=Eu d v 4 x.proc (by omega)
    have hNp:N0.c.procs=v.c.procs:=by rw [←hN];rfl
    rw [hN] at u3 u4 u5 hs kN
    have hNc:N0.pc i=x:=by unfold Wk.pc;rw [hNp];exact hpc
    have kW:=pJ d N0 i (by rw [hNp];exact u2) (by rw [hNc];exact u3) (by rw [di,hNp];exact u2)
    have kX:=mR d (ay N0 i) i (by rw [wm,hNp];exact u2)
    obtain ⟨y,hy⟩:∃y,be (ay N0 i) i=y:=⟨_,rfl⟩
    rw [hy] at u4 u5 hs kX
    have kS:=ma d y _ u4
    obtain ⟨F,hF⟩:∃F,aU y.c.procs.length y=F:=⟨_,rfl⟩
    rw [hF] at kS u5 hs
    obtain ⟨f1,f2⟩:=u5.len
    clear hy hF u4 u3 hNc hall hN hNp
    repeat' (first
     | refine ah ?_ ?_
     | (refine aa 9 rfl ?_;first
      | (refine cH (qf [(1,1010),(2,1011),(3,1020),(4,1021)]) (kN) ?_)
      | (refine cH (qf [(1,1020),(2,1021),(3,1030),(4,1031)]) (kW) ?_)
      | (refine cH (qf [(1,1030),(2,1031),(3,1040),(4,1041)]) (kX) ?_)
      | (refine cH (qf [(1,1040),(2,1041),(3,1050),(4,1051)]) (kS) ?_)
      | (refine cH (qf [(1,1050),(2,1051),(3,1060),(4,1061)]) (ya d F f1 f2) ?_))
     | refine af ?_
     | exact ai|refine ae fun hb=>?_)
    refine ⟨(m,F),⟨u5,hs⟩,by dsimp only;omega,?_⟩
    exact ao (qf [(1010,1060),(1011,1061)])
end Go.Proofs.YtdaajdflefnjfaaGreat
