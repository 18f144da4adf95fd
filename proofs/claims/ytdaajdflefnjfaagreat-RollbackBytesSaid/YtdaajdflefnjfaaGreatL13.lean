/- Part 13 of 24 of the proof of rollbackBytes_holds (no condition). -/
import Derived.Test.YtdaajdflefnjfaaGreatL12
set_option linter.unusedVariables false
set_option linter.unusedSimpArgs false
set_option maxRecDepth 100000
set_option maxHeartbeats 64000000
namespace Go.Proofs.YtdaajdflefnjfaaGreat
open Go.RowKit Go.Proofs.Tryz
def Da (w:Wk) (a b:Nat):List D:=[.sc (.int .i64 w.c.now),.sl ji w.c.queues,.ocut a,.own b]
def HI (d:Nat) (w:Wk):List (Nat×Box):=[(0,.box 169 (Da w 1 2)),(1,.arr 38 (tF d) w.c.procs),(2,.arr 296 ql w.ev)]
def HO (d:Nat) (w:Wk):List (Nat×Option Box):=[(0,some (.box 169 (Da w 3 4))),(3,some (.arr 38 (tF d) w.c.procs)),(4,some (.arr 296 ql w.ev)),(1,none),(2,none)]
abbrev jR:V0:=.one (.ptr 0 0)
abbrev jX (n:Int):V0:=.one (.sc (.int .i64 n))
theorem qq (d:Nat) (w:Wk) (t:List Qu) (ev:List Ev) (hl:w.ev.length+ev.length≤1000000):FSpec prog 186 [jR,.one (.sl ji t),.one (.sl ql ev)] (HI d w) [3,4] (.tup []) (HO d (w.take t ev)):=by
 refine aX func186 ?_
 repeat' (first
  | refine ah ?_ ?_
  | refine af ?_
  | exact ai|refine ae fun hb=>?_
  | (exact D7 (qf [(3,1),(4,17)])))
theorem Eu (d:Nat) (w:Wk) (k:Int) (p:Pr) (hl:w.ev.length≤1000000):FSpec prog 184 [jR,jX k,p.a] (HI d w) [3,4] (.tup []) (HO d (w.note k p)):=by
 refine aX func184 ?_
 have h0:Nat.ble w.ev.length 1000000=true:=by simpa using hl
 repeat' (first
  | refine ah ?_ ?_
  | (refine aa 8 rfl ?_;refine aM (aj rfl rfl (ax rfl rfl) (aB [⟨k,p,⟨#[]⟩,⟨0,0⟩⟩] rfl rfl rfl rfl) rfl aC aC) rfl rfl rfl ?_)
  | refine af ?_
  | exact ai|refine ae fun hb=>?_
  | (exact D7 (qf [(3,1),(4,15)])))
theorem jS {w:Wk} {i:Nat} {x:Pc} (h:w.c.procs[i]? = some x):w.pc i=x:=by unfold Wk.pc;rw [List.getD_eq_getElem?_getD,h];rfl
theorem wd {α:Type} {l:List α} {i:Nat} (h:i<l.length) (y:α):(l.set i y)[i]? = some y:=by simp [h]
theorem Ir (d:Nat) (w:Wk) (i:Nat) (hi:i<w.c.procs.length):FSpec prog 188 [jR,jX i] (HI d w) [3,4] (.tup []) (HO d (el w i)):=by
 refine aX func188 ?_
 obtain ⟨x,hx⟩:∃x,w.c.procs[i]? = some x:=⟨_,List.getElem?_eq_getElem hi⟩
 have hs1:=wd hi { x with waiting:=false }
 have hl1:(w.c.procs.set i { x with waiting:=false }).length=w.c.procs.length:=List.length_set
 have hs2:=wd (hl1▸hi) { x with waiting:=false,req:=Rq.zero }
 have hl2:((w.c.procs.set i { x with waiting:=false }).set i { x with waiting:=false,req:=Rq.zero }).length=w.c.procs.length:=by rw [List.length_set,hl1]
 have e:el w i=⟨{ w.c with procs:=((w.c.procs.set i { x with waiting:=false }).set i { x with waiting:=false,req:=Rq.zero }).set i { x with waiting:=false,req:=Rq.zero,since:=0 } },w.ev⟩:=by
  unfold el Wk.setP
  rw [jS hx,List.set_set,List.set_set]
 rw [e]
 repeat' (first
  | refine ah ?_ ?_
  | refine af ?_
  | (refine aa 4 rfl ?_;first
   | (refine bP (aI (z:={ x with waiting:=false }) rfl rfl rfl rfl hx rfl rfl rfl rfl (Nat.le_of_ble_eq_true rfl) rfl rfl) rfl rfl rfl ?_)
   | (refine bP (vR (z:={ x with waiting:=false,req:=Rq.zero }) rfl rfl rfl rfl hs1 rfl rfl rfl rfl (Nat.le_of_ble_eq_true rfl) (by (repeat' (first|exact trivial|exact .same _|exact .nil|refine ⟨?_,?_⟩));first|done|fail) rfl) rfl rfl rfl ?_)
   | (refine bP (aI (z:={ x with waiting:=false,req:=Rq.zero,since:=0 }) rfl rfl rfl rfl hs2 rfl rfl rfl rfl (Nat.le_of_ble_eq_true rfl) rfl rfl) rfl rfl rfl ?_))
  | exact ai|refine ae fun hb=>?_
  | (exact D7 (qf [(3,1),(4,2)])))
theorem mR (d:Nat) (w:Wk) (i:Nat) (hi:i<w.c.procs.length):FSpec prog 131 [jR,jX i] (HI d w) [3,4] (.tup []) (HO d (be w i)):=by
 refine aX func131 ?_
 obtain ⟨x,hx⟩:∃x,w.c.procs[i]? = some x:=⟨_,List.getElem?_eq_getElem hi⟩
 have e:be w i=⟨{ w.c with procs:=w.c.procs.set i { x with gen:=bh x.gen } },w.ev⟩:=by
  unfold be Wk.setP
  rw [jS hx]
 rw [e]
 repeat' (first
  | refine ah ?_ ?_
  | refine aa 9 rfl (cB [] (Iq x.gen) ?_)
  | refine af ?_
  | (refine aa 4 rfl ?_;refine bP (aI (z:={ x with gen:=bh x.gen }) rfl rfl rfl rfl hx rfl rfl rfl rfl (Nat.le_of_ble_eq_true rfl) rfl rfl) rfl rfl rfl ?_)
  | exact ai|refine ae fun hb=>?_
  | (exact D7 (qf [(3,1),(4,2)])))
theorem zI (t:List Qu) (l:List Pc) (i:Nat) (h:i<l.length):eO t i (l.drop i)=bif dY t l[i] then some i else eO t (i+1) (l.drop (i+1)):=by
 rw [List.drop_eq_getElem_cons h]
 rfl
def KC:Option Nat→Int
 | some i=>i
 | none=>-1
theorem sm (d:Nat) (w:Wk) (h8:w.c.procs.length≤100000):FSpec prog 190 [jR] (HI d w) [3,4] (.i (KC (eO w.c.queues 0 w.c.procs))) (HO d w):=by
 refine aX func190 ?_
 repeat' (first
  | refine ah ?_ ?_
  | refine af ?_
  | exact ai|refine ae fun hb=>?_)
 refine ak (fun i=>i≤w.c.procs.length∧eO w.c.queues i (w.c.procs.drop i)=eO w.c.queues 0 w.c.procs) (fun i=>bH [0,1,2] [(0,.v jR),(3,.i i)] [(0,.box 169 (Da w 1 2)),(1,.arr 38 (tF d) w.c.procs),(2,.arr 296 ql w.ev)]) (fun i=>w.c.procs.length-i) 0 ⟨Nat.zero_le _,by simp⟩ (by exact ao (qf [])) ?_
 rintro i ⟨hi,hs⟩
 by_cases hlt:i<w.c.procs.length
 ·obtain ⟨x,hx⟩:∃x,w.c.procs[i]=x:=⟨_,rfl⟩
  have hgx:w.c.procs[i]? = some x:=by rw [List.getElem?_eq_getElem hlt,hx]
  rw [zI _ _ _ hlt,hx] at hs
  have hgl:(bC w.c.queues x.proc x.req.expr).length≤1000:=by
   have:=dh x.req.expr
   simp [bC];omega
  cases hw:x.waiting with
  | false =>
   rw [show dY w.c.queues x=false by simp [dY,hw],cond_false] at hs
   repeat' (first
    | refine ah ?_ ?_
    | (refine aa 9 rfl ?_;first
     | (refine cC [] (ld d w.c.queues x.proc x.req.expr) ?_)
     | (refine cB [] (sb d x.req.expr (bC w.c.queues x.proc x.req.expr) hgl) ?_))
    | refine af ?_
    | exact ai|refine ae fun hb=>?_)
   refine ⟨i+1,⟨by omega,hs⟩,by omega,?_⟩
   exact ao (qf [])
  | true =>
   cases hh:ew x.req.expr (bC w.c.queues x.proc x.req.expr) with
   | false =>
    rw [show dY w.c.queues x=false by simp [dY,hh],cond_false] at hs
    repeat' (first
     | refine ah ?_ ?_
     | (refine aa 9 rfl ?_;first
      | (refine cC [] (ld d w.c.queues x.proc x.req.expr) ?_)
      | (refine cB [] (sb d x.req.expr (bC w.c.queues x.proc x.req.expr) hgl) ?_))
     | refine af ?_
     | exact ai|refine ae fun hb=>?_)
    refine ⟨i+1,⟨by omega,hs⟩,by omega,?_⟩
    exact ao (qf [])
   | true =>
    rw [show dY w.c.queues x=true by simp [dY,hw,hh],cond_true] at hs
    rw [←hs]
    repeat' (first
     | refine ah ?_ ?_
     | (refine aa 9 rfl ?_;first
      | (refine cC [] (ld d w.c.queues x.proc x.req.expr) ?_)
      | (refine cB [] (sb d x.req.expr (bC w.c.queues x.proc x.req.expr) hgl) ?_))
     | refine af ?_
     | exact ai|refine ae fun hb=>?_
     | (refine aE (qf [(3,1),(4,2)]) ?_;exact ab))
 ·rw [←hs,List.drop_eq_nil_of_le (by omega),show eO w.c.queues i []=none from rfl]
  repeat' (first
   | refine ah ?_ ?_
   | refine af ?_
   | exact ai|refine ae fun hb=>?_
   | (refine aE (qf [(3,1),(4,2)]) ?_;exact ab))
theorem so {n:ByteArray}:∀{acc:List ByteArray} {kk:Nat},kk≤acc.length→(∀m∈acc.drop kk,fy n m=true)→(∀j (h:j<acc.length),j<kk→fy n acc[j]=false)→gH n acc=acc.take kk++n :: acc.drop kk
 | [],kk,_,_,_=>by simp [gH]
 | m :: l,0,_,h1,_=>by have:=h1 m (by simp);simp [gH,this]
 | m :: l,kk+1,hk,h1,h2=>by
  have h3:=h2 0 (by simp) (by omega)
  have h4:=so (kk:=kk) (acc:=l) (by simpa using hk) (by simpa using h1) (fun j hj hjk=>by have:=h2 (j+1) (by simpa using hj) (by omega);simpa using this)
  simp at h3
  simp [gH,h3,h4]
theorem G9 {n:ByteArray} {acc:List ByteArray} {kk:Nat} (ha:iv acc) (hk:kk≤acc.length) (h1:∀m∈acc.drop kk,fy n m=true) (h2:∀j (h:j<acc.length),j+1=kk→fy n acc[j]=false):gH n acc=acc.take kk++n :: acc.drop kk:=by
 refine so hk h1 fun j hj hjk=>?_
 rcases Nat.lt_or_ge (j+1) kk with h|h
 ·cases hc:fy n acc[j] with
  | false=>rfl
  | true =>
   have h3:=h2 (kk-1) (by omega) (by omega)
   have h4:=(List.pairwise_iff_getElem.1 ha) j (kk-1) hj (by omega) (by omega)
   rw [d9 hc h4] at h3
   cases h3
 ·exact h2 j hj (by omega)
theorem jD (acc:List ByteArray) (e:En) (l:List En):dc acc (e :: l)=dc (bif dD e.name acc then acc else gH e.name acc) l:=rfl
theorem ut (n m:ByteArray) (l:List ByteArray):dD n (m :: l)=(m.toList == n.toList || dD n l):=rfl
theorem xS {n:ByteArray}:∀{l:List ByteArray},dD n l=false→n ∉ l
 | [],_=>by simp
 | m :: l,h=>by
  rw [ut,Bool.or_eq_false_iff] at h
  intro hm
  rcases List.mem_cons.1 hm with rfl|hm
  ·have h:=h.1;simp at h
  ·exact xS h.2 hm
theorem jb (n:ByteArray):∀l:List ByteArray,(gH n l).length=l.length+1
 | []=>rfl
 | m :: l=>by
  unfold gH
  cases fy n m with
  | true=>rfl
  | false=>simp [jb n l]
theorem Ha:ElTB prog dS 132 9 16:=ElTB.mk' underlying132 (.string ⟨#[]⟩) 1 16 (by kernel_rfl) rfl rfl
instance:ST prog dS 132 9 16:=⟨Ha⟩
theorem sq (l:List En) (hl:l.length≤100000):FSpec prog 74 [.one (.sl iR l)] [] [] (.c (.sl dS (br l))) []:=by
 refine aX func74 ?_
 repeat' (first
  | refine ah ?_ ?_
  | refine af ?_
  | exact ai|refine ae fun hb=>?_)
 refine cc 3 1000 9 dS rfl rfl rfl ?_
 refine ak (fun x:Nat×List ByteArray=>x.1≤l.length∧x.2.length≤x.1∧iv x.2∧dc x.2 (l.drop x.1)=br l) (fun x=>bH [1000] [(0,.c (.sl iR l)),(3,.c (.own 1000)),(4,.i x.1)] [(1000,.arr 9 dS x.2)]) (fun x=>l.length-x.1) (0,[]) ⟨Nat.zero_le _,Nat.le_refl _,by simp [iv],rfl⟩ (by exact ao (qf [])) ?_
 rintro ⟨i,acc⟩ ⟨hi,hal,hasc,hs⟩
 dsimp only at *
 by_cases hlt:i<l.length
 case neg =>
  have e:acc=br l:=by rw [←hs,List.drop_eq_nil_of_le (by omega)];rfl
  repeat' (first
   | refine ah ?_ ?_
   | refine af ?_
   | exact ai|refine ae fun hb=>?_)
  rw [←e]
  refine aE (qf []) ?_;exact ab
 rw [List.drop_eq_getElem_cons hlt,jD] at hs
 obtain ⟨n,hn⟩:∃n,l[i].name=n:=⟨_,rfl⟩
 rw [hn] at hs
 repeat' (first
  | refine ah ?_ ?_
  | refine af ?_
  | exact ai|refine ae fun hb=>?_)
 refine ak (fun x:Nat×Bool=>x.1≤acc.length∧dD n acc=(x.2 || dD n (acc.drop x.1))) (fun x=>bH [1000] [(0,.c (.sl iR l)),(3,.c (.own 1000)),(4,.i i),(5,.b x.2),(6,.i x.1)] [(1000,.arr 9 dS acc)]) (fun x=>acc.length-x.1) (0,false) ⟨Nat.zero_le _,rfl⟩ (by exact ao (qf [])) ?_
 rintro ⟨k,is⟩ ⟨hk,hh⟩
 dsimp only at *
 by_cases hkl:k<acc.length
 ·rw [List.drop_eq_getElem_cons hkl,ut] at hh
  repeat' (first
   | refine ah ?_ ?_
   | refine af ?_
   | exact ai|refine ae fun hb=>?_)
  ·refine ⟨(k+1,true),⟨by dsimp only;omega,by dsimp only;rw [hh,hb];simp⟩,by dsimp only;omega,?_⟩
   exact ao (qf [])
  ·refine ⟨(k+1,acc[k].toList == l[i].name.toList),⟨by dsimp only;omega,by dsimp only;rw [hh,hb,hn];simp⟩,by dsimp only;omega,?_⟩
   exact ao (qf [])
 have hh2:dD n acc=is:=by rw [hh,List.drop_eq_nil_of_le (by omega)];simp [dD]
 clear hh
 cases is with
 | true =>
  rw [hh2] at hs
  repeat' (first
   | refine ah ?_ ?_
   | refine af ?_
   | exact ai|refine ae fun hb=>?_)
  refine ⟨(i+1,acc),⟨by dsimp only;omega,by dsimp only;omega,hasc,hs⟩,by dsimp only;omega,?_⟩
  exact ao (qf [])
 | false =>
  rw [hh2] at hs
  have hnm:=xS hh2
  have hL:(acc++[l[i].name]).length=acc.length+1:=by simp
  have e1:acc.take acc.length++n :: acc.drop acc.length=acc++[l[i].name]:=by simp [hn]
  rw [cond_false] at hs
  repeat' (first
   | refine ah ?_ ?_
   | (refine aa 8 rfl ?_;refine aM (aj rfl rfl (ax rfl rfl) (aB [l[i].name] rfl rfl rfl rfl) rfl aC aC) rfl rfl rfl ?_)
   | refine af ?_
   | exact ai|refine ae fun hb=>?_)
  refine ak (fun k=>k≤acc.length∧∀m∈acc.drop k,fy n m=true) (fun k=>bH [1000] [(0,.c (.sl iR l)),(3,.c (.own 1000)),(4,.i i),(7,.i k)] [(1000,.arr 9 dS (acc.take k++n :: acc.drop k))]) (fun k=>k) acc.length ⟨Nat.le_refl _,by simp⟩ (by dsimp only;rw [e1];exact ao (qf [(1000,42)])) ?_
  rintro k ⟨hk,hall⟩
  have hW:(acc.take k++n :: acc.drop k).length=acc.length+1:=by simp;omega
  have hgk:(acc.take k++n :: acc.drop k)[k]? = some n:=by rw [List.getElem?_append_right (by simp;omega)];simp [Nat.min_eq_left hk]
  have hdone:(∀j (h:j<acc.length),j+1=k→fy n acc[j]=false)→gH n acc=acc.take k++n :: acc.drop k:=fun h2=>G9 hasc hk hall h2
  by_cases hk0:k=0
  ·subst hk0
   repeat' (first
    | refine ah ?_ ?_
    | refine af ?_
    | exact ai|refine ae fun hb=>?_)
   refine ⟨(i+1,gH n acc),⟨by dsimp only;omega,by dsimp only;rw [jb];omega,nU hasc hnm,hs⟩,by dsimp only;omega,?_⟩
   dsimp only
   rw [hdone (fun j _ h=>by omega)]
   exact ao (qf [])
  ·obtain ⟨m,hm⟩:∃m,acc[k-1]'(by omega)=m:=⟨_,rfl⟩
   have hgm:(acc.take k++n :: acc.drop k)[((k:Int)-1).toNat]? = some m:=by
    rw [show ((k:Int)-1).toNat=k-1 by omega,List.getElem?_append_left (by simp;omega)]
    simp [←hm,List.getElem?_take,show k-1<k by omega,show k-1<acc.length by omega]
   have e3:acc.drop (k-1)=m :: acc.drop k:=by
    rw [List.drop_eq_getElem_cons (i:=k-1) (by omega),hm,show k-1+1=k by omega]
   have e4:acc.take k=acc.take (k-1)++[m]:=by
    have:=List.take_succ_eq_append_getElem (l:=acc) (i:=k-1) (by omega)
    rw [show k-1+1=k by omega,hm] at this
    exact this
   have l1:(acc.take (k-1)).length=k-1:=by simp;omega
   have hset:((acc.take k++n :: acc.drop k).set k m).set ((k:Int)-1).toNat n=acc.take (k-1)++n :: acc.drop (k-1):=by
    rw [show ((k:Int)-1).toNat=k-1 by omega,e3,List.set_append_right _ _ (by simp;omega),e4]
    rw [show k-(acc.take (k-1)++[m]).length=0 by simp;omega,List.set_cons_zero,List.append_assoc,List.set_append_right _ _ (by omega),l1,Nat.sub_self]
    rfl
   have hW2:((acc.take k++n :: acc.drop k).set k m).length=acc.length+1:=by rw [List.length_set,hW]
   cases hc:fy n m with
   | false =>
    repeat' (first
     | refine ah ?_ ?_
     | refine af ?_
     | exact ai|refine ae fun hb=>?_)
    refine ⟨(i+1,gH n acc),⟨by dsimp only;omega,by dsimp only;rw [jb];omega,nU hasc hnm,hs⟩,by dsimp only;omega,?_⟩
    dsimp only
    rw [hdone (fun j hj h=>by rw [←hc,←hm];congr 2;omega)]
    exact ao (qf [])
   | true =>
    repeat' (first
     | refine ah ?_ ?_
     | refine af ?_
     | (refine aa 4 rfl ?_;first
      | (refine bP (aI (z:=m) rfl rfl rfl rfl (by first|assumption|exact List.getElem?_eq_getElem (by omega)) rfl rfl rfl rfl (Nat.le_of_ble_eq_true rfl) rfl rfl) rfl rfl rfl ?_)
      | (refine bP (aI (z:=n) rfl rfl rfl rfl (by first|assumption|exact List.getElem?_eq_getElem (by omega)) rfl rfl rfl rfl (Nat.le_of_ble_eq_true rfl) rfl rfl) rfl rfl rfl ?_))
     | exact ai|refine ae fun hb=>?_)
    refine ⟨k-1,⟨by omega,?_⟩,by omega,?_⟩
    ·rw [e3]
     intro y hy
     rcases List.mem_cons.1 hy with rfl|hy
     ·exact hc
     ·exact hall y hy
    ·rw [←hset]
     exact ao (qf [])
def fT (s:List Sv) (i:Nat):Int:=if i=0 then 0 else (s[i-1]?.map (·.at_)).getD 0
theorem Hb (l:List En) (s:List Sv):FSpec prog 30 [.ag [.sl iR l,.sl iN s]] [] [] (.b (jV l s)) []:=by
 refine aX func30 ?_
 obtain ⟨b,hB⟩:∃b,jV l s=b:=⟨_,rfl⟩
 rw [hB]
 refine aR (fun c ρ a w hr=>dQ (t:=0) (i:=0) hr rfl rfl) (fun hl0_0=>?_)
 refine aR (fun c ρ a w hr=>dQ (t:=0) (i:=1) hr rfl rfl) (fun hl0_1=>?_)
 by_cases h72:l.length≤72
 case neg =>
  obtain rfl:b=false:=by rw [←hB];simp [jV,h72]
  repeat' (first
   | refine ah ?_ ?_
   | refine af ?_
   | exact ai|refine ae fun hb=>?_
   | (refine aE (qf []) ?_;exact ab))
 by_cases h4:s.length≤4
 case neg =>
  obtain rfl:b=false:=by rw [←hB];simp [jV,h4]
  repeat' (first
   | refine ah ?_ ?_
   | refine af ?_
   | exact ai|refine ae fun hb=>?_
   | (refine aE (qf []) ?_;exact ab))
 repeat' (first
  | refine ah ?_ ?_
  | refine af ?_
  | exact ai|refine ae fun hb=>?_)
 refine ak (fun i=>i≤l.length∧fM (l.take i) (l.drop i)=fM [] l) (fun i=>bH [1] [(1,.c (.ptr 1 0)),(3,.i i)] [(1,.box 27 [.sl iR l,.sl iN s])]) (fun i=>l.length-i) 0 ⟨Nat.zero_le _,by simp⟩ (by exact ao (qf [])) ?_
 rintro i ⟨hi,hs⟩
 by_cases hlt:i<l.length
 ·obtain ⟨e,he⟩:∃e,l[i]=e:=⟨_,rfl⟩
  have hge:l[i]? = some e:=by rw [List.getElem?_eq_getElem hlt,he]
  have hst:fM [] l=(bJ e.name.toList && decide (e.before=aw (l.take i) e.name) && cY e.before e.after && fM (l.take (i+1)) (l.drop (i+1))):=by
   rw [←hs,List.drop_eq_getElem_cons hlt,he,List.take_succ_eq_append_getElem hlt,he]
   rfl
  by_cases hok:bJ e.name.toList=true∧e.before=aw (l.take i) e.name∧cY e.before e.after=true
  ·obtain ⟨k1,k2,k3⟩:=hok
   repeat' (first
    | refine ah ?_ ?_
    | (refine aa 9 rfl ?_;first
     | (refine cB [] (sa e.name) ?_)
     | (refine cB [] (iO (l.take i) e.name) ?_)
     | (refine cB [] (Ei e.before e.after) ?_))
    | refine af ?_
    | exact ai|refine ae fun hb=>?_)
   refine ⟨i+1,⟨by omega,?_⟩,by omega,?_⟩
   ·rw [hst,k1,k3];simp [k2]
   ·exact ao (qf [])
  ·obtain rfl:b=false:=by
    rw [←hB]
    have:fM [] l=false:=by
     rw [hst]
     cases h1:bJ e.name.toList with
     | false=>rfl
     | true =>
      cases h3:cY e.before e.after with
      | false=>simp
      | true =>
       have:e.before≠aw (l.take i) e.name:=fun h=>hok ⟨h1,h,h3⟩
       simp [this]
    simp [jV,this]
   have hok1:bJ e.name.toList=true→e.before=aw (l.take i) e.name→cY e.before e.after=true→False:=fun a b c=>hok ⟨a,b,c⟩
   clear hok
   repeat' (first
    | refine ah ?_ ?_
    | (refine aa 9 rfl ?_;first
     | (refine cB [] (sa e.name) ?_)
     | (refine cB [] (iO (l.take i) e.name) ?_)
     | (refine cB [] (Ei e.before e.after) ?_))
    | refine af ?_
    | exact ai|(refine ae fun hb=>?_;first|(exact (hok1 (by assumption) (by assumption) (by assumption)).elim)|skip)
    | (refine aE (qf []) ?_;exact ab))
 have hE:fM [] l=true:=by rw [←hs,List.drop_eq_nil_of_le (by omega)];rfl
 by_cases h8:(br l).length≤8
 case neg =>
  obtain rfl:b=false:=by rw [←hB];simp [jV,h8]
  repeat' (first
   | refine ah ?_ ?_
   | refine aa 9 rfl (cC [] (sq l (by omega)) ?_)
   | refine af ?_
   | exact ai|refine ae fun hb=>?_
   | (refine aE (qf []) ?_;exact ab))
 repeat' (first
  | refine ah ?_ ?_
  | refine aa 9 rfl (cC [] (sq l (by omega)) ?_)
  | refine af ?_
  | exact ai|refine ae fun hb=>?_)
 refine ak (fun i=>i≤s.length∧mo s l.length i (fT s i) (s.drop i)=mo s l.length 0 0 s) (fun i=>bH [1] [(1,.c (.ptr 1 0)),(5,.i i)] [(1,.box 27 [.sl iR l,.sl iN s])]) (fun i=>s.length-i) 0 ⟨Nat.zero_le _,rfl⟩ (by exact ao (qf [])) ?_
 clear hs hi hlt
 rintro j ⟨hj,hs⟩
 have hBB:b=mo s l.length 0 0 s:=by rw [←hB];simp [jV,h72,h4,hE,h8]
 by_cases hlt:j<s.length
 case neg =>
  obtain rfl:b=true:=by rw [hBB,←hs,List.drop_eq_nil_of_le (by omega)];rfl
  repeat' (first
   | refine ah ?_ ?_
   | refine af ?_
   | exact ai|refine ae fun hb=>?_
   | (refine aE (qf []) ?_;exact ab))
 obtain ⟨x,hx⟩:∃x,s[j]=x:=⟨_,rfl⟩
 have hgx:s[j]? = some x:=by rw [List.getElem?_eq_getElem hlt,hx]
 have hst:mo s l.length 0 0 s=(decide (1≤x.label) && decide (x.label≤99) && decide (0≤x.at_) && decide (x.at_≤l.length) && decide (fT s j≤x.at_) && decide (aJ x.label 0 s=(j:Int)) && mo s l.length (j+1) x.at_ (s.drop (j+1))):=by
  rw [←hs,List.drop_eq_getElem_cons hlt,hx]
  rfl
 have hnx:fT s (j+1)=x.at_:=by simp [fT,hgx]
 by_cases hok:(1≤x.label∧x.label≤99)∧(0≤x.at_∧x.at_≤l.length)∧fT s j≤x.at_∧aJ x.label 0 s=(j:Int)
 ·obtain ⟨⟨k1,k2⟩,⟨k3,k4⟩,k5,k6⟩:=hok
  have hgo:mo s l.length (j+1) (fT s (j+1)) (s.drop (j+1))=mo s l.length 0 0 s:=by rw [hst,hnx];simp [k1,k2,k3,k4,k5,k6]
  rcases Nat.eq_zero_or_pos j with h0|h0
  ·subst h0
   repeat' (first
    | refine ah ?_ ?_
    | refine aa 9 rfl (cB [] (jC s x.label) ?_)
    | refine af ?_
    | exact ai|refine ae fun hb=>?_)
   refine ⟨0+1,⟨by omega,hgo⟩,by omega,?_⟩
   exact ao (qf [])
  ·obtain ⟨y,hy⟩:∃y,s[((j:Int)-1).toNat]? = some y:=⟨_,List.getElem?_eq_getElem (by omega)⟩
   have hp:fT s j=y.at_:=by
    have e:((j:Int)-1).toNat=j-1:=by omega
    rw [e] at hy
    simp [fT,hy,show j≠0 by omega]
   repeat' (first
    | refine ah ?_ ?_
    | refine aa 9 rfl (cB [] (jC s x.label) ?_)
    | refine af ?_
    | exact ai|refine ae fun hb=>?_)
   refine ⟨j+1,⟨by omega,hgo⟩,by omega,?_⟩
   exact ao (qf [])
 ·have hok1:1≤x.label→x.label≤99→0≤x.at_→x.at_≤l.length→fT s j≤x.at_→aJ x.label 0 s=(j:Int)→False:=fun a b c d e f=>hok ⟨⟨a,b⟩,⟨c,d⟩,e,f⟩
  obtain rfl:b=false:=by
   rw [hBB,hst]
   cases hh:(decide (1≤x.label) && decide (x.label≤99) && decide (0≤x.at_) && decide (x.at_≤l.length) && decide (fT s j≤x.at_) && decide (aJ x.label 0 s=(j:Int))) with
   | false=>rfl
   | true =>
    simp only [Bool.and_eq_true,decide_eq_true_eq] at hh
    exact (hok1 hh.1.1.1.1.1 hh.1.1.1.1.2 hh.1.1.1.2 hh.1.1.2 hh.1.2 hh.2).elim
  clear hok
  rcases Nat.eq_zero_or_pos j with h0|h0
  ·subst h0
   have hp:fT s 0=0:=rfl
   repeat' (first
    | refine ah ?_ ?_
    | refine aa 9 rfl (cB [] (jC s x.label) ?_)
    | refine af ?_
    | exact ai|(refine ae fun hb=>?_;first|(exact (hok1 (by omega) (by omega) (by omega) (by omega) (by omega) (by omega)).elim)|skip)
    | (refine aE (qf []) ?_;exact ab))
  ·obtain ⟨y,hy⟩:∃y,s[((j:Int)-1).toNat]? = some y:=⟨_,List.getElem?_eq_getElem (by omega)⟩
   have hp:fT s j=y.at_:=by
    have e:((j:Int)-1).toNat=j-1:=by omega
    rw [e] at hy
    simp [fT,hy,show j≠0 by omega]
   repeat' (first
    | refine ah ?_ ?_
    | refine aa 9 rfl (cB [] (jC s x.label) ?_)
    | refine af ?_
    | exact ai|(refine ae fun hb=>?_;first|(exact (hok1 (by omega) (by omega) (by omega) (by omega) (by omega) (by omega)).elim)|skip)
    | (refine aE (qf []) ?_;exact ab))
def KD (R:Lg×Int):TV:=.tup [R.1.a,.one (.sc (.int .i64 R.2))]
theorem f8 {l:List En} {s:List Sv} (h:jV l s=true):l.length≤72∧s.length≤4:=by
 simp only [jV,Bool.and_eq_true,decide_eq_true_eq] at h
 exact ⟨h.1.1.1.1,h.1.1.1.2⟩
theorem ce (g:Lg):FSpec prog 30 [g.a] [] [] (.b (qi g)) []:=Hb g.entries g.saves
theorem Hc (g:Lg) (e:En) {R:Lg×Int} (hR:gI g e=R):FSpec prog 192 [g.a,e.a] [] [] (KD R) []:=by
 refine aX func192 ?_
 cases hV:qi g with
 | false =>
  obtain rfl:R=(.zero,2):=by rw [←hR];simp [gI,hV]
  repeat' (first
   | refine ah ?_ ?_
   | refine aa 9 rfl (cB [] (ce g) ?_)
   | refine af ?_
   | exact ai|refine ae fun hb=>?_
   | (refine iG (qf []) ?_;exact ab))
 | true =>
  obtain ⟨h1,h2⟩:=f8 hV
  cases hV2:qi ⟨g.entries++[e],g.saves⟩ with
  | false =>
   obtain rfl:R=(.zero,1):=by rw [←hR];simp [gI,hV,hV2]
   repeat' (first
    | refine ah ?_ ?_
    | (refine aa 8 rfl ?_;refine aM (aj rfl rfl (ax rfl rfl) (aB [e] rfl rfl rfl rfl) rfl aC aC) rfl rfl rfl ?_)
    | (refine aa 9 rfl ?_;first
     | (refine cB [] (ce g) ?_)
     | (refine cB [17,21] (ce ⟨g.entries++[e],g.saves⟩) ?_))
    | refine af ?_
    | exact ai|refine ae fun hb=>?_
    | (refine iG (qf []) ?_;exact ab))
  | true =>
   obtain rfl:R=(⟨g.entries++[e],g.saves⟩,0):=by rw [←hR];simp [gI,hV,hV2]
   repeat' (first
    | refine ah ?_ ?_
    | (refine aa 8 rfl ?_;refine aM (aj rfl rfl (ax rfl rfl) (aB [e] rfl rfl rfl rfl) rfl aC aC) rfl rfl rfl ?_)
    | (refine aa 9 rfl ?_;first
     | (refine cB [] (ce g) ?_)
     | (refine cB [17,21] (ce ⟨g.entries++[e],g.saves⟩) ?_))
    | refine af ?_
    | exact ai|refine ae fun hb=>?_
    | (refine iG (qf []) ?_;exact ab))
theorem KE (g:Lg) (n:Int) {R:Lg×Int} (hR:iD g n=R):FSpec prog 134 [g.a,.one (.sc (.int .i64 n))] [] [] (KD R) []:=by
 refine aX func134 ?_
 cases hV:qi g with
 | false =>
  obtain rfl:R=(.zero,2):=by rw [←hR];simp [iD,hV]
  repeat' (first
   | refine ah ?_ ?_
   | refine aa 9 rfl (cB [] (ce g) ?_)
   | refine af ?_
   | exact ai|refine ae fun hb=>?_
   | (refine iG (qf []) ?_;exact ab))
 | true =>
  obtain ⟨h1,h2⟩:=f8 hV
  by_cases hn:1≤n∧n≤99
  case neg =>
   obtain rfl:R=(.zero,1):=by
    rw [←hR];unfold iD;rw [hV]
    have:(decide (1≤n) && decide (n≤99))=false:=by rw [Bool.and_eq_false_iff];simp;omega
    rw [this];rfl
   repeat' (first
    | refine ah ?_ ?_
    | refine aa 9 rfl (cB [] (ce g) ?_)
    | refine af ?_
    | exact ai|refine ae fun hb=>?_
    | (refine iG (qf []) ?_;exact ab))
  obtain ⟨hn1,hn2⟩:=hn
  by_cases hf:0≤aJ n 0 g.saves
  case pos =>
   obtain rfl:R=(.zero,11):=by rw [←hR];simp [iD,hV,hn1,hn2,hf]
   repeat' (first
    | refine ah ?_ ?_
    | (refine aa 9 rfl ?_;first
     | (refine cB [] (ce g) ?_)
     | (refine cB [] (jC g.saves n) ?_))
    | refine af ?_
    | exact ai|refine ae fun hb=>?_
    | (refine iG (qf []) ?_;exact ab))
  by_cases h4:g.saves.length=4
  case pos =>
   obtain rfl:R=(.zero,4):=by rw [←hR];simp [iD,hV,hn1,hn2,hf,h4]
   repeat' (first
    | refine ah ?_ ?_
    | (refine aa 9 rfl ?_;first
     | (refine cB [] (ce g) ?_)
     | (refine cB [] (jC g.saves n) ?_))
    | refine af ?_
    | exact ai|refine ae fun hb=>?_
    | (refine iG (qf []) ?_;exact ab))
  obtain rfl:R=(⟨g.entries,g.saves++[⟨n,g.entries.length⟩]⟩,0):=by rw [←hR];simp [iD,hV,hn1,hn2,hf,h4]
  repeat' (first
   | refine ah ?_ ?_
   | (refine aa 8 rfl ?_;refine aM (aj rfl rfl (ax rfl rfl) (aB [⟨n,g.entries.length⟩] rfl rfl rfl rfl) rfl aC aC) rfl rfl rfl ?_)
   | (refine aa 9 rfl ?_;first
    | (refine cB [] (ce g) ?_)
    | (refine cB [] (jC g.saves n) ?_))
   | refine af ?_
   | exact ai|refine ae fun hb=>?_
   | (refine iG (qf []) ?_;exact ab))
theorem zJ (g:Lg) (h72:g.entries.length≤72):FSpec prog 170 [g.a] [] [] (.c (.sl cr (ib g))) []:=by
 refine aX func170 ?_
 have hnl:(br g.entries).length≤72:=by
  have:∀(l:List En) (acc:List ByteArray),(dc acc l).length≤acc.length+l.length:=by
   intro l
   induction l with
   | nil=>intro acc;simp [dc]
   | cons e l ih =>
    intro acc
    rw [jD]
    cases dD e.name acc with
    | true=>have:=ih acc;simp;omega
    | false=>have:=ih (gH e.name acc);rw [jb] at this;simp;omega
  have:=this g.entries []
  simp at this
  exact Nat.le_trans this h72
 repeat' (first
  | refine ah ?_ ?_
  | refine aa 9 rfl (cC [] (sq g.entries (by omega)) ?_)
  | refine af ?_
  | exact ai|refine ae fun hb=>?_)
 obtain ⟨N,hN⟩:∃N,br g.entries=N:=⟨_,rfl⟩
 rw [hN] at hnl
 obtain ⟨F,hF⟩:∃F:List ByteArray→List Tm,F=fun L=>(L.map fun m=>(⟨m,aw g.entries m⟩:Tm)).filter fun a=>!aO a.am:=⟨_,rfl⟩
 have hH:ib g=F N:=by rw [hF,←hN];rfl
 rw [hH,hN]
 refine cc 3 1000 31 cr rfl rfl rfl ?_
 refine ak (fun x:Nat×List Tm=>x.1≤N.length∧x.2.length≤x.1∧x.2++F (N.drop x.1)=F N) (fun x=>bH [1,1000] [(1,.c (.ptr 1 0)),(3,.c (.own 1000)),(4,.c (.sl dS N)),(5,.i x.1)] [(1,.box 27 [.sl iR g.entries,.sl iN g.saves]),(1000,.arr 31 cr x.2)]) (fun x=>N.length-x.1) (0,[]) ⟨Nat.zero_le _,Nat.le_refl _,rfl⟩ (by exact ao (qf [])) ?_
 rintro ⟨i,acc⟩ ⟨hi,hal,hs⟩
 dsimp only at *
 by_cases hlt:i<N.length
 ·have e:F (N.drop i)=(bif aO (aw g.entries N[i]) then [] else [⟨N[i],aw g.entries N[i]⟩])++F (N.drop (i+1)):=by
   rw [List.drop_eq_getElem_cons hlt,hF]
   dsimp only
   rw [List.map_cons,List.filter_cons]
   cases aO (aw g.entries N[i]) <;> rfl
  rw [e] at hs
  repeat' (first
   | refine ah ?_ ?_
   | (refine aa 8 rfl ?_;refine aM (aj rfl rfl (ax rfl rfl) (aB [⟨N[i],aw g.entries N[i]⟩] rfl rfl rfl rfl) rfl aC aC) rfl rfl rfl ?_)
   | refine aa 9 rfl (cB [] (iO g.entries N[i]) ?_)
   | refine af ?_
   | exact ai|refine ae fun hb=>?_)
  ·refine ⟨(i+1,acc++[⟨N[i],aw g.entries N[i]⟩]),⟨by dsimp only;omega,by simp;omega,?_⟩,by dsimp only;omega,?_⟩
   ·rw [←hs];simp [aO,hb]
   ·exact ao (qf [(1000,34)])
  ·refine ⟨(i+1,acc),⟨by dsimp only;omega,by dsimp only;omega,?_⟩,by dsimp only;omega,?_⟩
   ·rw [←hs];simp [aO,hb]
   ·exact ao (qf [])
 ·have e:acc=F N:=by rw [←hs,List.drop_eq_nil_of_le (by omega)];simp [hF]
  repeat' (first
   | refine ah ?_ ?_
   | refine af ?_
   | exact ai|refine ae fun hb=>?_)
  rw [←e]
  refine aE (qf []) ?_;exact ab
theorem AY {all:List Sv} {n:Int}:∀{l:List Sv} {k:Nat} {a:Int},mo all n k a l=true→∀x∈l,0≤x.at_∧x.at_≤n
 | [],_,_,_=>by simp
 | s :: l,k,a,h=>by
  simp only [mo,Bool.and_eq_true,decide_eq_true_eq] at h
  intro x hx
  rcases List.mem_cons.1 hx with rfl|hx
  ·exact ⟨h.1.1.1.1.2,h.1.1.1.2⟩
  ·exact AY h.2 x hx
theorem zK {l:List En} {s:List Sv} (h:jV l s=true):∀x∈s,0≤x.at_∧x.at_≤l.length:=by
 simp only [jV,Bool.and_eq_true] at h
 exact AY h.2
theorem gp:∀(l:List En) (acc:List ByteArray),(dc acc l).length≤acc.length+l.length
 | [],acc=>by simp [dc]
 | e :: l,acc=>by
  rw [jD]
  cases dD e.name acc with
  | true=>have:=gp l acc;simp;omega
  | false=>have:=gp l (gH e.name acc);rw [jb] at this;simp;omega
def KF (R:Lg×List Tm×Int):TV:=.tup [R.1.a,.one (.sl cr R.2.1),.one (.sc (.int .i64 R.2.2))]
theorem Hd (l:List Sv) (n:Int) {k:Int} (h:aJ n 0 l=k):FSpec prog 75 [.one (.sl iN l),.one (.sc (.int .i64 n))] [] [] (.i k) []:=h▸jC l n
theorem Is (g:Lg) (n:Int) {R:Lg×List Tm×Int} (hR:b9 g n=R):FSpec prog 32 [g.a,.one (.sc (.int .i64 n))] [] [] (KF R) []:=by
 refine aX func32 ?_
 cases hV:qi g with
 | false =>
  obtain rfl:R=(.zero,[],2):=by rw [←hR];simp [b9,hV]
  repeat' (first
   | refine ah ?_ ?_
   | refine aa 9 rfl (cB [] (ce g) ?_)
   | refine af ?_
   | exact ai|refine ae fun hb=>?_
   | (refine eR (qf []) ?_;exact ab))
 | true =>
  obtain ⟨h1,h2⟩:=f8 hV
  have hat:=zK hV
  by_cases hf:n≠0∧aJ n 0 g.saves<0
  case pos =>
   obtain ⟨hn0,hf⟩:=hf
   obtain rfl:R=(.zero,[],10):=by rw [←hR];simp [b9,hV,hn0,hf]
   repeat' (first
    | refine ah ?_ ?_
    | (refine aa 9 rfl ?_;first
     | (refine cB [] (ce g) ?_)
     | (refine cB [] (jC g.saves n) ?_))
    | refine af ?_
    | exact ai|refine ae fun hb=>?_
    | (refine eR (qf []) ?_;exact ab))
  obtain ⟨at_,sv,hX,ha1,ha2,hs1,hs2,hcase⟩:∃(at_:Int) (sv:Nat),bp g n=⟨g.entries.take at_.toNat,g.saves.take sv⟩∧0≤at_∧at_≤g.entries.length∧0≤sv∧sv≤g.saves.length∧((n=0∧at_=0∧sv=0)∨(n≠0∧∃i,∃hi:i<g.saves.length,aJ n 0 g.saves=(i:Int)∧g.saves[i].at_=at_∧sv=i+1)):=by
   by_cases hn:n=0
   ·exact ⟨0,0,by simp [bp,hn],by omega,by omega,by omega,by omega,.inl ⟨hn,rfl,rfl⟩⟩
   ·obtain ⟨i,hi,he,_⟩:=iC (n:=n) (l:=g.saves) (k:=0) (by by_cases h:aJ n 0 g.saves<0;exact absurd ⟨hn,h⟩ hf;omega)
    have he2:aJ n 0 g.saves=(i:Int):=by rw [he];simp
    have:=hat _ (List.getElem_mem hi)
    exact ⟨g.saves[i].at_,i+1,by simp [bp,hn,he2,hi,List.getD_eq_getElem?_getD],this.1,this.2,by omega,by omega,.inr ⟨hn,i,hi,he2,rfl,rfl⟩⟩
  have hl1:(g.entries.take at_.toNat).length=at_.toNat:=by simp;omega
  obtain ⟨N,hN⟩:∃N,br (g.entries.drop at_.toNat)=N:=⟨_,rfl⟩
  have hNl:N.length≤72:=by
   rw [←hN]
   have:=gp (g.entries.drop at_.toNat) []
   simp at this
   unfold br
   omega
  obtain rfl:R=(⟨g.entries.take at_.toNat,g.saves.take sv⟩,N.map fun m=>⟨m,aw (g.entries.take at_.toNat) m⟩,0):=by
   rw [←hR]
   unfold b9
   rw [hX,hV,hl1,hN]
   rcases hcase with ⟨rfl,_⟩|⟨h0,i,hi,he,_⟩
   ·simp
   ·have hi0:¬((i:Int)<0):=by omega
    simp [h0,he,hi0]
  clear hR hf hX
  rcases hcase with ⟨rfl,rfl,rfl⟩|⟨h0,i,hi,he,rfl,rfl⟩
  ·skip
   repeat' (first
    | refine ah ?_ ?_
    | (refine aa 9 rfl ?_;first
     | (refine cB [] (ce g) ?_)
     | (refine cC [] (sq (g.entries.drop (Int.toNat 0)) (by simp;omega)) ?_))
    | refine af ?_
    | exact ai|refine ae fun hb=>?_)
   refine cc 11 1000 31 cr rfl rfl rfl ?_
   obtain ⟨X,hXg⟩:∃X:Lg,X=⟨g.entries.take (Int.toNat 0),g.saves.take 0⟩:=⟨_,rfl⟩
   refine ak (fun x:Nat×List Tm=>x.1≤N.length∧x.2.length=x.1∧x.2++((N.drop x.1).map fun m=>(⟨m,aw (g.entries.take (Int.toNat 0)) m⟩:Tm))=N.map fun m=>⟨m,aw (g.entries.take (Int.toNat 0)) m⟩) (fun x=>bH [4,10,1000,1001,1002] [(4,.c (.ptr 4 0)),(10,.c (.ptr 10 0)),(11,.c (.own 1000)),(12,.c (.sl dS N)),(13,.i x.1)] [(4,.box 27 [.sc (.slice none 0 0),.sc (.slice none 0 0)]),(10,.box 27 [.sl iR (g.entries.take (Int.toNat 0)),.sl iN (g.saves.take 0)]),(1000,.arr 31 cr x.2)]) (fun x=>N.length-x.1) (0,[]) ⟨Nat.zero_le _,rfl,rfl⟩ (by rw [←hN];exact ao (qf [])) ?_
   rintro ⟨k,acc⟩ ⟨hk,hal,hs⟩
   dsimp only at *
   by_cases hlt:k<N.length
   ·rw [List.drop_eq_getElem_cons hlt,List.map_cons] at hs
    repeat' (first
     | refine ah ?_ ?_
     | (refine aa 8 rfl ?_;refine aM (aj rfl rfl (ax rfl rfl) (aB [⟨N[k],aw (g.entries.take (Int.toNat 0)) N[k]⟩] rfl rfl rfl rfl) rfl aC aC) rfl rfl rfl ?_)
     | refine aa 9 rfl (cB [] (iO (g.entries.take (Int.toNat 0)) N[k]) ?_)
     | refine af ?_
     | exact ai|refine ae fun hb=>?_)
    refine ⟨(k+1,acc++[⟨N[k],aw (g.entries.take (Int.toNat 0)) N[k]⟩]),⟨by dsimp only;omega,by simp;omega,by dsimp only;rw [←hs];simp⟩,by dsimp only;omega,?_⟩
    exact ao (qf [(1000,73)])
   ·have e:acc=N.map fun m=>⟨m,aw (g.entries.take (Int.toNat 0)) m⟩:=by rw [←hs,List.drop_eq_nil_of_le (by omega)];simp
    rw [←e]
    repeat' (first
     | refine ah ?_ ?_
     | refine af ?_
     | exact ai|refine ae fun hb=>?_
     | (refine eR (qf []) ?_;exact ab))
  ·skip
   repeat' (first
    | refine ah ?_ ?_
    | (refine aa 9 rfl ?_;first
     | (refine cB [] (ce g) ?_)
     | (refine cB [] (Hd g.saves n he) ?_)
     | (refine cC [] (sq (g.entries.drop g.saves[i].at_.toNat) (by simp;omega)) ?_))
    | refine af ?_
    | exact ai|refine ae fun hb=>?_)
   refine cc 11 1000 31 cr rfl rfl rfl ?_
   obtain ⟨X,hXg⟩:∃X:Lg,X=⟨g.entries.take g.saves[i].at_.toNat,g.saves.take (i+1)⟩:=⟨_,rfl⟩
   refine ak (fun x:Nat×List Tm=>x.1≤N.length∧x.2.length=x.1∧x.2++((N.drop x.1).map fun m=>(⟨m,aw (g.entries.take g.saves[i].at_.toNat) m⟩:Tm))=N.map fun m=>⟨m,aw (g.entries.take g.saves[i].at_.toNat) m⟩) (fun x=>bH [4,10,1000,1001,1002] [(4,.c (.ptr 4 0)),(10,.c (.ptr 10 0)),(11,.c (.own 1000)),(12,.c (.sl dS N)),(13,.i x.1)] [(4,.box 27 [.sc (.slice none 0 0),.sc (.slice none 0 0)]),(10,.box 27 [.sl iR (g.entries.take g.saves[i].at_.toNat),.sl iN (g.saves.take (i+1))]),(1000,.arr 31 cr x.2)]) (fun x=>N.length-x.1) (0,[]) ⟨Nat.zero_le _,rfl,rfl⟩ (by rw [←hN];exact ao (qf [])) ?_
   rintro ⟨k,acc⟩ ⟨hk,hal,hs⟩
   dsimp only at *
   by_cases hlt:k<N.length
   ·rw [List.drop_eq_getElem_cons hlt,List.map_cons] at hs
    repeat' (first
     | refine ah ?_ ?_
     | (refine aa 8 rfl ?_;refine aM (aj rfl rfl (ax rfl rfl) (aB [⟨N[k],aw (g.entries.take g.saves[i].at_.toNat) N[k]⟩] rfl rfl rfl rfl) rfl aC aC) rfl rfl rfl ?_)
     | refine aa 9 rfl (cB [] (iO (g.entries.take g.saves[i].at_.toNat) N[k]) ?_)
     | refine af ?_
     | exact ai|refine ae fun hb=>?_)
    refine ⟨(k+1,acc++[⟨N[k],aw (g.entries.take g.saves[i].at_.toNat) N[k]⟩]),⟨by dsimp only;omega,by simp;omega,by dsimp only;rw [←hs];simp⟩,by dsimp only;omega,?_⟩
    exact ao (qf [(1000,73)])
   ·have e:acc=N.map fun m=>⟨m,aw (g.entries.take g.saves[i].at_.toNat) m⟩:=by rw [←hs,List.drop_eq_nil_of_le (by omega)];simp
    rw [←e]
    repeat' (first
     | refine ah ?_ ?_
     | refine af ?_
     | exact ai|refine ae fun hb=>?_
     | (refine eR (qf []) ?_;exact ab))
structure Opn where
 proc:Pr
 label:Int
 cost:Int
 lower:List Tm
def Opn.d (o:Opn):List D:=[.sc (.int .i64 o.proc.site),.sc (.int .i64 o.proc.inc),.sc (.int .i64 o.proc.num),.sc (.int .i64 o.label),.sc (.int .i64 o.cost),.sl cr o.lower]
def Opn.a (o:Opn):V0:=.ag o.d
def tj:El Opn where
 n:=6
 pos:=by decide
 rep:=fun w S x cs=>∃A c,cs=[.int .i64 x.proc.site,.int .i64 x.proc.inc,.int .i64 x.proc.num,.int .i64 x.label,.int .i64 x.cost,.slice A x.lower.length c]∧RowsAt cr w S A x.lower∧(x.lower.length≤c∧c≤maxLen)
 len:=fun h=>by obtain ⟨A,c,rfl,_⟩:=h;rfl
 one:=fun h=>by obtain ⟨A,c,rfl,_⟩:=h;intro u hu;simp at hu;rcases hu with rfl|rfl|rfl|rfl|rfl|rfl <;> rfl
 same:=fun h hk hS=>by
  obtain ⟨A,c,e,h1,h2⟩:=h
  exact ⟨A,c,e,h1.same hk hS,h2⟩
instance:Dp tj where
 deep:=Opn.d
 get:=by
  rintro w F ρ x cs ⟨A,c,rfl,h1,h2⟩
  exact ⟨rfl,rfl,rfl,rfl,rfl,⟨A,c,rfl,h2,h1⟩,trivial⟩
 put:=by
  intro w F ρ x cs h
  match cs,h with
  | [_,_,_,_,_,_],⟨rfl,rfl,rfl,rfl,rfl,⟨A,c,rfl,h2,h1⟩,_⟩=>exact ⟨A,c,rfl,h1,h2⟩
 nok:=fun _ _=>rfl
instance:ST prog tj 51 41 64:=⟨ElTB.mk' underlying51 (.agg #[.int .i64 0,.int .i64 0,.int .i64 0,.int .i64 0,.int .i64 0,.slice none 0 0]) 6 64 (by kernel_rfl) rfl rfl⟩
theorem Js (a b:ByteArray):(Op.bytesLess a.toList b.toList || a.toList == b.toList) = !Op.bytesLess b.toList a.toList:=by
 have h1:fy a b=Op.bytesLess a.toList b.toList:=rfl
 have h2:fy b a=Op.bytesLess b.toList a.toList:=rfl
 rw [←h1,←h2]
 by_cases e:a=b
 ·subst e;rw [dj];simp
 ·rw [show (a.toList == b.toList)=false from beq_eq_false_iff_ne.2 fun h=>e (toList_inj h),Bool.or_false]
  cases h:fy b a with
  | true =>
   cases h':fy a b with
   | false=>rfl
   | true=>have:=d9 h h';rw [dj] at this;cases this
  | false=>rw [lK h (fun h=>e h.symm)];rfl
theorem He {P:Program} {o:Oper} {s:Mst} {t t':TypeId} {x y:Operand} {a b:ByteArray} (ho:o.op = .binOp .leq t x y t') (hx:s.ev x = .c (.sc (.string a))) (hy:s.ev y = .c (.sc (.string b))):LOp P o s [] ⟨.b (!Op.bytesLess b.toList a.toList),[],[]⟩ :=
 fq (by rw [ho];rfl) hx hy fun ev w hx hy=>by simp [execOp,ho,hx,hy,eqGuard,binOp,Op.stringOp,←Js]
def gJ (n:ByteArray):List ByteArray→List ByteArray
 | []=>[n]
 | x :: l=>bif fy x n then x :: gJ n l else bif aT x n then x :: l else n :: x :: l
theorem AZ (n:ByteArray):∀(l:List ByteArray) (i:Nat) (hi:i≤l.length),(∀j (hj:j<l.length),j<i→fy l[j] n=true)→gJ n l=l.take i++gJ n (l.drop i)
 | [],i,hi,_=>by
  obtain rfl:i=0:=by simpa using hi
  rfl
 | x :: l,0,_,_=>rfl
 | x :: l,i+1,hi,h=>by
  have h0:=h 0 (by simp) (by omega)
  simp only [List.getElem_cons_zero] at h0
  have ih:=AZ n l i (by simpa using hi) (fun j hj hji=>by have:=h (j+1) (by simpa using hj) (by omega);simpa using this)
  show (bif fy x n then x :: gJ n l else bif aT x n then x :: l else n :: x :: l)=_
  rw [h0,cond_true,ih]
  rfl
theorem og (n:ByteArray):∀l:List ByteArray,(gJ n l).length≤l.length+1
 | []=>by simp [gJ]
 | x :: l=>by
  have:=og n l
  show (bif fy x n then x :: gJ n l else bif aT x n then x :: l else n :: x :: l).length≤_
  cases fy x n with
  | true=>rw [cond_true,List.length_cons,List.length_cons];omega
  | false=>cases aT x n <;> simp
theorem Jt (l:List ByteArray) (n:ByteArray) (hl:l.length≤100000) {R:List ByteArray} (hR:gJ n l=R):FSpec prog 77 [.one (.sl dS l),.one (.sc (.string n))] [] [] (.c (.sl dS R)) []:=by
 refine aX func77 ?_
 repeat' (first
  | refine ah ?_ ?_
  | refine af ?_
  | exact ai|refine ae fun hb=>?_)
 refine ak (fun i=>i≤l.length∧∀j (hj:j<l.length),j<i→fy l[j] n=true) (fun i=>bH [] [(0,.c (.sl dS l)),(1,.c (.sc (.string n))),(5,.i i)] []) (fun i=>l.length-i) 0 ⟨Nat.zero_le _,fun j hj h=>absurd h (by omega)⟩ (by exact ao (qf [])) ?_
 rintro i ⟨hi,hlow⟩
 have hat:=AZ n l i hi hlow
 by_cases hlt:i<l.length
 ·obtain ⟨x,hx⟩:∃x,l[i]? = some x:=⟨_,List.getElem?_eq_getElem hlt⟩
  have ex:l[i]=x:=(List.getElem?_eq_some_iff.1 hx).2
  obtain ⟨t,ht⟩:∃t,Op.bytesLess x.toList n.toList=t:=⟨_,rfl⟩
  cases t with
  | true =>
   repeat' (first
    | refine ah ?_ ?_
    | refine af ?_
    | exact ai|(refine ae fun hb=>?_;first|(exact Bool.noConfusion (hb.symm.trans ht))|(exact Bool.noConfusion (ht.symm.trans hb))|skip))
   refine ⟨i+1,⟨by omega,fun j hj h=>?_⟩,by omega,?_⟩
   ·by_cases e:j=i
    ·subst e;rw [ex];exact ht
    ·exact hlow j hj (by omega)
   ·exact ao (qf [])
  | false =>
   rw [List.drop_eq_getElem_cons hlt,ex] at hat
   have hat:gJ n l=l.take i++(bif Op.bytesLess x.toList n.toList then x :: gJ n (l.drop (i+1)) else bif (x.toList == n.toList) then x :: l.drop (i+1) else n :: x :: l.drop (i+1)):=hat
   rw [ht,cond_false] at hat
   by_cases he:x.toList=n.toList
   ·obtain rfl:R=l:=by
     rw [←hR,hat,beq_iff_eq.2 he,cond_true]
     conv=>rhs;rw [←List.take_append_drop i l,List.drop_eq_getElem_cons hlt,ex]
    repeat' (first
     | refine ah ?_ ?_
     | refine af ?_
     | exact ai|(refine ae fun hb=>?_;first|(exact Bool.noConfusion (hb.symm.trans ht))|(exact Bool.noConfusion (ht.symm.trans hb))|(exact absurd he hb)|skip)
     | (refine aE (qf []) ?_;exact ab))
   ·obtain rfl:R=(l.take i++[n])++l.drop i:=by
     rw [←hR,hat,beq_eq_false_iff_ne.2 he,cond_false,List.drop_eq_getElem_cons hlt,ex]
     simp
    repeat' (first
     | refine ah ?_ ?_
     | (refine aa 8 rfl ?_;refine aM (aj rfl rfl (ax rfl rfl) (aB [n] rfl rfl rfl rfl) rfl aC aC) rfl rfl rfl ?_)
     | refine af ?_
     | exact ai|(refine ae fun hb=>?_;first|(exact Bool.noConfusion (hb.symm.trans ht))|(exact Bool.noConfusion (ht.symm.trans hb))|(exact absurd hb he)|skip)
     | (refine aE (qf []) ?_;exact ab))
 ·obtain rfl:R=(l.take i++[n])++l.drop i:=by
   rw [←hR,hat,List.drop_eq_nil_of_le (by omega)]
   simp [gJ]
  repeat' (first
   | refine ah ?_ ?_
   | (refine aa 8 rfl ?_;refine aM (aj rfl rfl (ax rfl rfl) (aB [n] rfl rfl rfl rfl) rfl aC aC) rfl rfl rfl ?_)
   | refine af ?_
   | exact ai|refine ae fun hb=>?_
   | (refine aE (qf []) ?_;exact ab))
section
open Go.WideShapes Go.ChangeShapes Go.Deep Go.Joins
section
variable {H:Type} {enc:TypeId×Value→H} {w:World} {base:Nat} {spare:Nat→Bool} {held:Bool}
theorem Pc.up {d d':Nat} (hd:d≤d') {S:Nat→Prop} {ρ:Nat→Value} {x:Pc} {v:Value} (h:(x.a d).rep w S ρ v):(x.a d').rep w S ρ v:=by
 obtain ⟨cs,e,hA⟩:=h
 match cs,hA with
 | [_,_,_,_,_,_,_,_,_,_,_,_,_,_,_,_],⟨k0,k1,k2,k3,k4,k5,k6,k7,k8,k9,k10,⟨A,cap,e1,e2,h3⟩,k12,k13,k14,k15,_⟩ =>
  exact ⟨_,e,k0,k1,k2,k3,k4,k5,k6,k7,k8,k9,k10,⟨A,cap,e1,e2,h3.map fun _ _ hx=>zc hd hx⟩,k12,k13,k14,k15,trivial⟩
theorem Ew {r:Reach} {b0:Nat} {v:Value} {d:DataW H} {p:List MemPlace} (hv:Value.okWide prog w r b0 41 v) (h:DataW.Trod enc prog w base spare held 41 v d p):∃x:Opn,∀ρ,x.a.rep w (Lo w.heap.size) ρ v:=by
 obtain ⟨cs0,rfl,hsz⟩:=okWide_struct underlying41 hv
 obtain ⟨fuel,hf⟩:=h
 have hc2:(Value.agg cs0).cells.toList=cs0.toList:=by simp [Value.cells]
 rw [hc2] at hf
 obtain ⟨cs⟩:=cs0
 obtain ⟨y0,y1,y2,y3,n,_,hl,h0,h1,h2,h3⟩:=trod_struct4 underlying41 hf
 have hl2:cs.length=6:=hl.trans (by kernel_rfl)
 match cs,hl2 with
 | [c0,c1,c2,c3,c4,c5],_ =>
  have e1:prog.cellsOf 23=3:=by kernel_rfl
  have e2:prog.cellsOf 3=1:=by kernel_rfl
  have e3:prog.cellsOf 39=1:=by kernel_rfl
  obtain ⟨⟨pa,pb,pc⟩,g0,_⟩:=Dd h0
  obtain ⟨la,g1,_⟩:=fb underlying3 h1
  obtain ⟨co,g2,_⟩:=fb underlying3 h2
  obtain ⟨lo,⟨A,k,g3,l1,l2,r1⟩,_⟩:=(Dw.sl underlying39 (by kernel_rfl)) h3
  have g0':([c0,c1,c2,c3,c4,c5].drop 0).take (prog.cellsOf 23)=[.int .i64 pa,.int .i64 pb,.int .i64 pc]:=g0
  have g1':([c0,c1,c2,c3,c4,c5].drop 3).take (prog.cellsOf 3)=[.int .i64 la]:=g1
  have g2':([c0,c1,c2,c3,c4,c5].drop 4).take (prog.cellsOf 3)=[.int .i64 co]:=g2
  have g3':([c0,c1,c2,c3,c4,c5].drop 5).take (prog.cellsOf 39)=[.slice A lo.length k]:=g3
  rw [e1] at g0'
  rw [e2] at g1' g2'
  rw [e3] at g3'
  simp at g0' g1' g2' g3'
  exact ⟨⟨⟨pa,pb,pc⟩,la,co,lo⟩,fun ρ=>⟨[c0,c1,c2,c3,c4,c5],rfl,g0'.1,g0'.2.1,g0'.2.2,g1',g2',⟨A,k,g3',⟨l1,l2⟩,r1⟩,trivial⟩⟩
theorem zL {r:Reach} {b0:Nat} {v:Value} {d:DataW H} {p:List MemPlace} (hv:Value.okWide prog w r b0 42 v) (h:DataW.Trod enc prog w base spare held 42 v d p):∃l:List Int,∀ρ,(V0.one (.sl fm l)).rep w (Lo w.heap.size) ρ v:=by
 obtain ⟨a0,len,cap0,rfl⟩:=okWide_slice underlying42 hv
 obtain ⟨fuel,hf⟩:=h
 obtain ⟨l,⟨A,cap,hc,h1,h2,h3⟩,_⟩:=(Opens.sl (E:=fm) (fits:=F8) (fb underlying3) underlying42 (by kernel_rfl)) hf
 have hc':[Value.slice a0 len cap0]=[.slice A l.length cap]:=by simpa [Value.cells] using hc
 injection hc' with hc'
 exact ⟨l,fun ρ=>⟨A,cap,hc',⟨h1,h2⟩,h3⟩⟩
theorem xT {r:Reach} {b0:Nat} {v:Value} {d:DataW H} {p:List MemPlace} (hv:Value.okWide prog w r b0 56 v) (h:DataW.Trod enc prog w base spare held 56 v d p):∃l:List UInt8,∀ρ,(V0.one (.sl aQ l)).rep w (Lo w.heap.size) ρ v:=by
 obtain ⟨A,l,cap,hc,h1,h2,h3⟩:=yX hv h
 exact ⟨l,fun ρ=>⟨A,cap,hc,⟨h1,h2⟩,h3⟩⟩
end
end
def fD:List ByteArray→List ByteArray→List ByteArray
 | a,[]=>a
 | a,n :: l=>fD (gJ n a) l
def we (p:Pc) (g:Lg):List ByteArray:=fD (fD [] ((p.led.entries.drop g.entries.length).map (·.name))) (bif p.waiting then (cP p.req.expr).map (·.name) else [])
def Hf (p:Pc) (g:Lg) (label:Int):Opn:=⟨p.proc,label,p.cost*((p.led.entries.length:Int)-g.entries.length+1),(we p g).map fun n=>⟨n,aw g.entries n⟩⟩
theorem pw:∀(l a:List ByteArray),(fD a l).length≤a.length+l.length
 | [],a=>Nat.le_refl _
 | n :: l,a=>by
  have h1:=pw l (gJ n a)
  have h2:=og n a
  show (fD (gJ n a) l).length≤_
  rw [List.length_cons]
  omega
theorem A4 (l:List ByteArray) (n:ByteArray) (hl:l.length≤100000):FSpec prog 77 [.one (.sl dS l),.one (.sc (.string n))] [] [] (.c (.sl dS (gJ n l))) []:=Jt l n hl rfl
theorem A5 (d:Nat) (p:Pc) (g:Lg) (label:Int) (hg:g.entries.length≤p.led.entries.length) (h72:p.led.entries.length≤72) (hc:0≤p.cost∧p.cost≤1000) {R:Opn} (hR:Hf p g label=R):FSpec prog 33 [p.a d,g.a,jX label] [] [] (.v R.a) []:=by
 refine aX func33 ?_
 unfold Hf we at hR
 obtain ⟨E,hE⟩:∃E,p.led.entries.drop g.entries.length=E:=⟨_,rfl⟩
 have hEl:E.length≤72:=by rw [←hE];simp;omega
 have hE2:p.led.entries.drop ((g.entries.length:Int)).toNat=E:=by rw [Int.toNat_natCast];exact hE
 obtain ⟨c9,hc9⟩:∃c9,p.cost*((p.led.entries.length:Int)-g.entries.length+1)=c9:=⟨_,rfl⟩
 have hmul : -9223372036854775808≤p.cost*((p.led.entries.length:Int)-g.entries.length+1)∧p.cost*((p.led.entries.length:Int)-g.entries.length+1)≤9223372036854775807:=by
  obtain ⟨k,hk⟩:∃k:Int,(p.led.entries.length:Int)-g.entries.length+1=k:=⟨_,rfl⟩
  rw [hk]
  have k1:0≤k:=by omega
  have k2:k≤73:=by omega
  have m1:=Int.mul_nonneg hc.1 k1
  have m2:p.cost*k≤1000*73:=Int.mul_le_mul hc.2 k2 k1 (by omega)
  omega
 obtain ⟨N1,hN1⟩:∃N,fD [] (E.map (·.name))=N:=⟨_,rfl⟩
 have hN1l:N1.length≤72:=by rw [←hN1];have:=pw (E.map (·.name)) [];simp at this;omega
 rw [hE,hN1] at hR
 repeat' (first
  | refine ah ?_ ?_
  | (refine aa 14 rfl ?_;refine sx (bg rfl rfl rfl rfl (by omega) (by omega) hE2) ?_)
  | refine af ?_
  | exact ai|refine ae fun hb=>?_)
 refine ak (fun y:Nat×List ByteArray=>y.1≤E.length∧y.2.length≤y.1∧fD y.2 ((E.drop y.1).map (·.name))=N1) (fun y=>bH [3,4,6] [(2,.v (jX label)),(3,.c (.ptr 3 0)),(4,.c (.ptr 4 0)),(6,.c (.ptr 6 0)),(7,.c (.sl dS y.2)),(21,.c (.sl iR E)),(22,.i E.length),(23,.i y.1)] [(3,.box 38 (p.d d)),(4,.box 27 [.sl iR g.entries,.sl iN g.saves]),(6,.box 41 [.sc (.int .i64 0),.sc (.int .i64 0),.sc (.int .i64 0),.sc (.int .i64 0),.sc (.int .i64 0),.sc (.slice none 0 0)])]) (fun y=>E.length-y.1) (0,[]) ⟨Nat.zero_le _,Nat.le_refl _,hN1⟩ (by exact ao (qf [])) ?_
 clear hN1 hE hE2
 rintro ⟨i,A⟩ ⟨hi,hA,hs⟩
 dsimp only at *
 by_cases hlt:i<E.length
 ·obtain ⟨e,he⟩:∃e,E[i]? = some e:=⟨_,List.getElem?_eq_getElem hlt⟩
  have ee:E[i]=e:=(List.getElem?_eq_some_iff.1 he).2
  rw [List.drop_eq_getElem_cons hlt,ee] at hs
  have kI:=A4 A e.name (by omega)
  have hil:=og e.name A
  repeat' (first
   | refine ah ?_ ?_
   | refine aa 9 rfl (cC [] (kI) ?_)
   | refine af ?_
   | exact ai|refine ae fun hb=>?_)
  refine ⟨(i+1,gJ e.name A),⟨by dsimp only;omega,by dsimp only;omega,hs⟩,by dsimp only;omega,?_⟩
  exact ao (qf [])
 rw [List.drop_eq_nil_of_le (by omega)] at hs
 obtain rfl:A=N1:=hs
 clear hA
 obtain ⟨N,hN⟩:∃N,fD A (bif p.waiting then (cP p.req.expr).map (·.name) else [])=N:=⟨_,rfl⟩
 have h8:=dh p.req.expr
 have hNl:N.length≤80:=by
  rw [←hN]
  have:=pw (bif p.waiting then (cP p.req.expr).map (·.name) else []) A
  cases hw:p.waiting with
  | true=>rw [hw] at this;simp at this ⊢;omega
  | false=>rw [hw] at this;simp at this ⊢;omega
 rw [hN] at hR
 obtain ⟨M,hM⟩:∃M:List Tm,N.map (fun n=>(⟨n,aw g.entries n⟩:Tm))=M:=⟨_,rfl⟩
 rw [hM] at hR
 obtain rfl:R=⟨p.proc,label,p.cost*((p.led.entries.length:Int)-g.entries.length+1),M⟩:=hR.symm
 clear hR hc9 c9
 cases hw:p.waiting
 case' true =>
  rw [hw,cond_true] at hN
  obtain ⟨T,hT⟩:∃T,cP p.req.expr=T:=⟨_,rfl⟩
  rw [hT] at hN h8
  have kA:=ja d p.req.expr hT
  repeat' (first
   | refine ah ?_ ?_
   | refine aa 9 rfl (cC [] (kA) ?_)
   | refine af ?_
   | exact ai|(refine ae fun hb=>?_;first|(cases hw.symm.trans hb;done)|skip))
  refine ak (fun y:Nat×List ByteArray=>y.1≤T.length∧y.2.length≤72+y.1∧fD y.2 ((T.drop y.1).map (·.name))=N) (fun y=>bH [3,4,6] [(2,.v (jX label)),(3,.c (.ptr 3 0)),(4,.c (.ptr 4 0)),(6,.c (.ptr 6 0)),(7,.c (.sl dS y.2)),(37,.c (.sl cr T)),(38,.i T.length),(39,.i y.1)] [(3,.box 38 (p.d d)),(4,.box 27 [.sl iR g.entries,.sl iN g.saves]),(6,.box 41 [.sc (.int .i64 0),.sc (.int .i64 0),.sc (.int .i64 0),.sc (.int .i64 0),.sc (.int .i64 0),.sc (.slice none 0 0)])]) (fun y=>T.length-y.1) (0,A) ⟨Nat.zero_le _,by dsimp only;omega,hN⟩ (by exact ao (qf [])) ?_
  clear hN
  rintro ⟨i,B⟩ ⟨hi,hBl,hs⟩
  dsimp only at *
  by_cases hlt:i<T.length
  case pos =>
   obtain ⟨a,ha⟩:∃a,T[i]? = some a:=⟨_,List.getElem?_eq_getElem hlt⟩
   have ea:T[i]=a:=(List.getElem?_eq_some_iff.1 ha).2
   rw [List.drop_eq_getElem_cons hlt,ea] at hs
   have kI:=A4 B a.name (by omega)
   have hil:=og a.name B
   repeat' (first
    | refine ah ?_ ?_
    | refine aa 9 rfl (cC [] (kI) ?_)
    | refine af ?_
    | exact ai|refine ae fun hb=>?_)
   refine ⟨(i+1,gJ a.name B),⟨by dsimp only;omega,by dsimp only;omega,hs⟩,by dsimp only;omega,?_⟩
   exact ao (qf [])
  rw [List.drop_eq_nil_of_le (by omega)] at hs
  obtain rfl:N=B:=hs.symm
  repeat' (first
   | refine ah ?_ ?_
   | (refine aa 10 rfl ?_;refine sx (nK rfl rfl rfl (IntWalk.i64_in _ hmul)) ?_)
   | refine af ?_
   | exact ai|refine ae fun hb=>?_)
 case' false =>
  rw [hw,cond_false] at hN
  obtain rfl:N=A:=hN.symm
  repeat' (first
   | refine ah ?_ ?_
   | (refine aa 10 rfl ?_;refine sx (nK rfl rfl rfl (IntWalk.i64_in _ hmul)) ?_)
   | refine af ?_
   | exact ai|(refine ae fun hb=>?_;first|(cases hw.symm.trans hb;done)|skip))
 all_goals
  refine fC 12 5 1000 31 cr rfl rfl rfl rfl ?_
  refine ak (fun y:Nat×List Tm=>y.1≤N.length∧y.2.length=y.1∧y.2++(N.drop y.1).map (fun n=>(⟨n,aw g.entries n⟩:Tm))=M) (fun y=>bH [4,6,12,1000] [(4,.c (.ptr 4 0)),(6,.c (.ptr 6 0)),(12,.c (.ptr 12 0)),(64,.c (.sl dS N)),(65,.i N.length),(66,.i y.1)] [(4,.box 27 [.sl iR g.entries,.sl iN g.saves]),(6,.box 41 [.sc (.int .i64 0),.sc (.int .i64 0),.sc (.int .i64 0),.sc (.int .i64 0),.sc (.int .i64 0),.sc (.slice none 0 0)]),(12,.box 41 [.sc (.int .i64 p.proc.site),.sc (.int .i64 p.proc.inc),.sc (.int .i64 p.proc.num),.sc (.int .i64 label),.sc (.int .i64 (p.cost*((p.led.entries.length:Int)-g.entries.length+1))),.own 1000]),(1000,.arr 31 cr y.2)]) (fun y=>N.length-y.1) (0,[]) ⟨Nat.zero_le _,rfl,hM⟩ (by exact ao (qf [])) ?_
  clear hM
  rintro ⟨i,Y⟩ ⟨hi,hYl,hs⟩
  dsimp only at *
  by_cases hlt:i<N.length
  ·obtain ⟨n,hn⟩:∃n,N[i]? = some n:=⟨_,List.getElem?_eq_getElem hlt⟩
   have en1:N[i]=n:=(List.getElem?_eq_some_iff.1 hn).2
   rw [List.drop_eq_getElem_cons hlt,en1,List.map_cons] at hs
   have kH:=iO g.entries n
   obtain ⟨a,ha⟩:∃a,aw g.entries n=a:=⟨_,rfl⟩
   rw [ha] at kH hs
   repeat' (first
    | refine ah ?_ ?_
    | (refine aa 8 rfl ?_;refine aM (aj rfl rfl (ax rfl rfl) (aB [⟨n,a⟩] rfl rfl rfl rfl) rfl aC aC) rfl rfl rfl ?_)
    | refine aa 9 rfl (cB [] (kH) ?_)
    | refine af ?_
    | exact ai|refine ae fun hb=>?_)
   refine ⟨(i+1,Y++[⟨n,a⟩]),⟨by dsimp only;omega,by simp [hYl],?_⟩,by dsimp only;omega,?_⟩
   ·dsimp only
    rw [←hs]
    simp
   ·exact ao (qf [(1000,79)])
  ·rw [List.drop_eq_nil_of_le (by omega)] at hs
   obtain rfl:Y=M:=by rw [←hs];simp
   repeat' (first
    | refine ah ?_ ?_
    | refine af ?_
    | exact ai|refine ae fun hb=>?_
    | (refine aE (qf []) ?_;exact ab))
def tG:Option ByteArray→List Tm→Bool
 | _,[]=>true
 | o,a :: l=>bJ a.name.toList && (aO a.am || aZ a.am) && (match o with|none=>true|some n=>fy n a.name) && tG (some a.name) l
def mS (o:Opn):Bool:=fI o.proc && (decide (o.label = -1) || decide (1≤o.label) && decide (o.label≤99)) && decide (1≤o.cost) && decide (o.cost≤1073741824) && decide (o.lower.length≤8) && tG none o.lower
theorem px (o:Option ByteArray) (a:Tm) (l:List Tm):tG o (a :: l)=(bJ a.name.toList && (aO a.am || aZ a.am) && (match o with|none=>true|some n=>fy n a.name) && tG (some a.name) l):=rfl
theorem qW (o:Opn) {b:Bool} (hB:mS o=b):FSpec prog 13 [o.a] [] [] (.b b) []:=by
 refine aX func13 ?_
 unfold mS at hB
 have kV:=d7 o.proc
 obtain ⟨v,hv⟩:∃v,fI o.proc=v:=⟨_,rfl⟩
 rw [hv] at kV hB
 cases v with
 | false =>
  obtain rfl:b=false:=by rw [←hB];rfl
  repeat' (first
   | refine ah ?_ ?_
   | refine aa 9 rfl (cB [] (kV) ?_)
   | refine af ?_
   | exact ai|refine ae fun hb=>?_
   | (refine aE (qf []) ?_;exact ab))
 | true =>
  by_cases hA:(o.label = -1∨1≤o.label∧o.label≤99)∧1≤o.cost∧o.cost≤1073741824∧o.lower.length≤8
  case neg =>
   obtain rfl:b=false:=by
    rw [←hB]
    cases hh:(true && (decide (o.label = -1) || decide (1≤o.label) && decide (o.label≤99)) && decide (1≤o.cost) && decide (o.cost≤1073741824) && decide (o.lower.length≤8)) with
    | false=>rfl
    | true =>
     simp only [Bool.and_eq_true,Bool.or_eq_true,decide_eq_true_eq] at hh
     exact absurd ⟨hh.1.1.1.2,hh.1.1.2,hh.1.2,hh.2⟩ hA
   have hA':(o.label = -1∨1≤o.label∧o.label≤99)→1≤o.cost→o.cost≤1073741824→o.lower.length≤8→False:=fun a b c d=>hA ⟨a,b,c,d⟩
   clear hA
   repeat' (first
    | refine ah ?_ ?_
    | refine aa 9 rfl (cB [] (kV) ?_)
    | refine af ?_
    | exact ai|(refine ae fun hb=>?_;first|(exact (hA' (by omega) (by omega) (by omega) (by omega)).elim)|skip)
    | (refine aE (qf []) ?_;exact ab))
  obtain ⟨hA1,hA2,hA3,hA4⟩:=hA
  have e1:(decide (o.label = -1) || decide (1≤o.label) && decide (o.label≤99))=true:=by simpa using hA1
  rw [e1,decide_eq_true hA2,decide_eq_true hA3,decide_eq_true hA4] at hB
  simp only [Bool.true_and] at hB
  repeat' (first
   | refine ah ?_ ?_
   | refine aa 9 rfl (cB [] (kV) ?_)
   | refine af ?_
   | exact ai|refine ae fun hb=>?_)
  all_goals
   refine ak (fun y:Nat×Option ByteArray=>y.1≤o.lower.length∧(y.1=0∧y.2=none∨0<y.1∧∃z,o.lower[((y.1:Int)-1).toNat]? = some z∧y.2=some z.name)∧tG y.2 (o.lower.drop y.1)=b) (fun y=>bH [1] [(1,.c (.ptr 1 0)),(3,.i y.1)] [(1,.box 41 o.d)]) (fun y=>o.lower.length-y.1) (0,none) ⟨Nat.zero_le _,.inl ⟨rfl,rfl⟩,hB⟩ (by exact ao (qf [])) ?_
   clear hB e1 kV
   rintro ⟨i,p⟩ ⟨hi,hp,hs⟩
   dsimp only at *
   by_cases hlt:i<o.lower.length
   ·obtain ⟨a,ha⟩:∃a,o.lower[i]? = some a:=⟨_,List.getElem?_eq_getElem hlt⟩
    have ea:o.lower[i]=a:=(List.getElem?_eq_some_iff.1 ha).2
    rw [List.drop_eq_getElem_cons hlt,ea,px] at hs
    have kN:=sa a.name
    have kZ:=fg a.am
    have kU:=lQ a.am
    obtain ⟨n,hn⟩:∃n,bJ a.name.toList=n:=⟨_,rfl⟩
    obtain ⟨z,hz⟩:∃z,aO a.am=z:=⟨_,rfl⟩
    obtain ⟨u,hu⟩:∃u,aZ a.am=u:=⟨_,rfl⟩
    rw [hn] at kN hs
    rw [hz] at kZ hs
    rw [hu] at kU hs
    clear hn hz hu
    obtain ⟨G,hG⟩:∃G,tG (some a.name) (o.lower.drop (i+1))=G:=⟨_,rfl⟩
    rw [hG] at hs
    rcases hp with ⟨h0,rfl⟩|⟨h0,y,hy,rfl⟩
    ·have hs:(n && (z || u) && true && G)=b:=hs
     repeat' (first
      | refine ah ?_ ?_
      | (refine aa 9 rfl ?_;first
       | (refine cB [] (kN) ?_)
       | (refine cB [] (kZ) ?_)
       | (refine cB [] (kU) ?_))
      | refine af ?_
      | exact ai|refine ae fun hb=>?_)
     any_goals (refine gz ?_;rw [←hs];simp [*];done)
     all_goals
      refine ⟨(i+1,some a.name),⟨by dsimp only;omega,.inr ⟨by dsimp only;omega,a,?_,rfl⟩,?_⟩,by dsimp only;omega,?_⟩
      ·dsimp only
       rw [←ha]
       congr 1
       omega
      ·dsimp only
       rw [←hs,hG]
       simp [*]
      ·exact ao (qf [])
    ·have hs:(n && (z || u) && Op.bytesLess y.name.toList a.name.toList && G)=b:=hs
     have ha':o.lower[((i+1:Nat):Int).toNat-1]? = some a:=ha
     repeat' (first
      | refine ah ?_ ?_
      | (refine aa 9 rfl ?_;first
       | (refine cB [] (kN) ?_)
       | (refine cB [] (kZ) ?_)
       | (refine cB [] (kU) ?_))
      | (refine aa 10 rfl ?_;refine sx (He rfl rfl rfl) ?_)
      | refine af ?_
      | exact ai|refine ae fun hb=>?_)
     any_goals (refine gz ?_;rw [←hs];simp [*];done)
     all_goals
      refine ⟨(i+1,some a.name),⟨by dsimp only;omega,.inr ⟨by dsimp only;omega,a,?_,rfl⟩,?_⟩,by dsimp only;omega,?_⟩
      ·dsimp only
       rw [←ha]
       congr 1
       omega
      ·dsimp only
       rw [←hs,hG]
       simp [*]
      ·exact ao (qf [])
   ·rw [List.drop_eq_nil_of_le (by omega)] at hs
    obtain rfl:b=true:=hs.symm
    repeat' (first
     | refine ah ?_ ?_
     | refine af ?_
     | exact ai|refine ae fun hb=>?_
     | (refine aE (qf []) ?_;exact ab))
end Go.Proofs.YtdaajdflefnjfaaGreat
