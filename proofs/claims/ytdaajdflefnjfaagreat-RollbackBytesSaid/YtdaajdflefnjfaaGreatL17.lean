/- Part 17 of 24 of the proof of rollbackBytes_holds (no condition). -/
import Derived.Test.YtdaajdflefnjfaaGreatL16
set_option linter.unusedVariables false
set_option linter.unusedSimpArgs false
set_option maxRecDepth 100000
set_option maxHeartbeats 64000000
namespace Go.Proofs.YtdaajdflefnjfaaGreat
open Go.RowKit Go.Proofs.Tryz
structure CatOk (l:List Rs):Prop where
 len:l.length≤8
 ok:∀x∈l,mm x=true
 asc:∀i (h:i+1<l.length),fy (l[i]'(by omega)).name l[i+1].name=true
theorem JD {t:List Qu} (h:ez t=true):CatOk (gA t):=by
 have hp:=cm h
 refine ⟨by simp [gA];exact hp.1,fun x hx=>?_,fun i hi=>?_⟩
 ·obtain ⟨q,hq,rfl⟩:=List.mem_map.1 hx
  exact (aG (dJ h hq)).res
 ·have:=(nS hp.2.1).1
  have hi':i+1<t.length:=by simpa [gA] using hi
  have h2:=(List.pairwise_iff_getElem.1 this) i (i+1) (by simp [gj];omega) (by simp [gj];omega) (by omega)
  simpa [gj,gA] using h2
theorem KQ {a b:ByteArray} (h:fy a b=true):(!Op.bytesLess a.toList b.toList)=false:=by
 unfold fy at h
 rw [h]
 rfl
theorem mb (l:List Rs) (hc:CatOk l):FSpec prog 98 [.one (.sl fJ l)] [] [] (.b true) []:=by
 refine aX func98 ?_
 have h8:=hc.len
 repeat' (first
  | refine ah ?_ ?_
  | refine af ?_
  | exact ai|refine ae fun hb=>?_)
 refine ak (fun i=>i≤l.length) (fun i=>bH [] [(0,.c (.sl fJ l)),(3,.i i)] []) (fun i=>l.length-i) 0 (Nat.zero_le _) (by exact ao (qf [])) ?_
 intro i hi
 by_cases hlt:i<l.length
 ·have hv:=hc.ok _ (List.getElem_mem hlt)
  rcases Nat.eq_zero_or_pos i with h0|h0
  ·subst h0
   repeat' (first
    | refine ah ?_ ?_
    | refine aa 9 rfl (cB [] (xL (l[0]'(by omega))) ?_)
    | refine af ?_
    | exact ai|refine ae fun hb=>?_)
   refine ⟨0+1,by omega,by omega,?_⟩
   exact ao (qf [])
  ·obtain ⟨y,hy⟩:∃y,l[((i:Int)-1).toNat]? = some y:=⟨_,List.getElem?_eq_getElem (by omega)⟩
   have hlt2:(!Op.bytesLess y.name.toList l[i].name.toList)=false:=by
    refine KQ ?_
    have:=hc.asc (i-1) (by omega)
    rw [show ((i:Int)-1).toNat=i-1 by omega,List.getElem?_eq_getElem (by omega)] at hy
    rw [Option.some.inj hy] at this
    simpa [show i-1+1=i by omega] using this
   repeat' (first
    | refine ah ?_ ?_
    | refine aa 9 rfl (cB [] (xL l[i]) ?_)
    | refine af ?_
    | exact ai|(refine ae fun hb=>?_;first|(exact Bool.noConfusion ((congrArg (!·) hb).symm.trans hlt2))|skip))
   refine ⟨i+1,by omega,by omega,?_⟩
   exact ao (qf [])
 ·skip
  repeat' (first
   | refine ah ?_ ?_
   | refine af ?_
   | exact ai|refine ae fun hb=>?_
   | (refine aE (qf []) ?_;exact ab))
def mz (n:ByteArray) (t:List Qu):Rs:=bif aV t n then (bf t n).res else ⟨⟨#[]⟩,0,0,0⟩
theorem sL {n:ByteArray}:∀{t:List Qu} {k:Nat},bK n k t = -1∨∃i,∃h:i<t.length,bK n k t=((k+i:Nat):Int)∧t[i].res.name.toList == n.toList∧∀j (hj:j<i),(t[j].res.name.toList == n.toList)=false
 | [],_=>.inl rfl
 | q :: l,k=>by
  unfold bK
  cases hq:q.res.name.toList == n.toList with
  | true=>exact .inr ⟨0,by simp,by simp,by simpa using hq,fun j hj=>absurd hj (Nat.not_lt_zero _)⟩
  | false =>
   rcases sL (n:=n) (t:=l) (k:=k+1) with h|⟨i,hi,h1,h2,h3⟩
   ·exact .inl (by simpa using h)
   ·refine .inr ⟨i+1,by simpa using hi,by rw [cond_false,h1];congr 1;omega,by simpa using h2,fun j hj=>?_⟩
    cases j with
    | zero=>simpa using hq
    | succ j=>simpa using h3 j (by omega)
theorem uE {n:ByteArray}:∀{t:List Qu} {k:Nat},bK n k t<0→∀j (hj:j<t.length),(t[j].res.name.toList == n.toList)=false
 | [],_,_,j,hj=>by simp at hj
 | q :: l,k,h,j,hj=>by
  unfold bK at h
  cases hq:q.res.name.toList == n.toList with
  | true=>rw [hq,cond_true] at h;omega
  | false =>
   rw [hq,cond_false] at h
   cases j with
   | zero=>simpa using hq
   | succ j=>simpa using uE h j (by simpa using hj)
theorem EX (t:List Qu) (n:ByteArray):FSpec prog 243 [.one (.sl fJ (gA t)),.one (.sc (.string n))] [] [] (.tup [(mz n t).a,.one (.sc (.bool (aV t n)))]) []:=by
 refine aX func243 ?_
 obtain ⟨L,hL⟩:∃L,gA t=L:=⟨_,rfl⟩
 rw [hL]
 have hLl:L.length=t.length:=by rw [←hL];simp [gA]
 have hLg:∀i (h:i<L.length),L[i]=(t[i]'(by omega)).res:=by intro i h;simp [←hL,gA]
 refine aR (fun c ρ a w hr=>cu (t:=0) hr rfl) (fun hl0=>?_)
 by_cases hf:bK n 0 t<0
 ·have hall:=uE hf
  have hh:aV t n=false:=by simp [aV];omega
  rw [show mz n t=⟨⟨#[]⟩,0,0,0⟩ by simp [mz,hh],hh]
  repeat' (first
   | refine ah ?_ ?_
   | refine af ?_
   | exact ai|refine ae fun hb=>?_)
  refine ak (fun i=>i≤L.length) (fun i=>bH [4] [(0,.c (.sl fJ L)),(1,.c (.sc (.string n))),(4,.c (.ptr 4 0)),(6,.i i)] [(4,.box 159 [.sc (.string ⟨#[]⟩),.sc (.int .i64 0),.sc (.int .i64 0),.sc (.int .i64 0)])]) (fun i=>L.length-i) 0 (Nat.zero_le _) (by exact ao (qf [])) ?_
  intro i hi
  by_cases hlt:i<L.length
  ·have h1:=hall i (by omega)
   rw [←congrArg Rs.name (hLg i hlt)] at h1
   repeat' (first
    | refine ah ?_ ?_
    | refine af ?_
    | exact ai|(refine ae fun hb=>?_;first|(exact Bool.noConfusion (((beq_iff_eq.2 hb).symm.trans h1):true=false))|(exact hb.elim)|skip))
   refine ⟨i+1,by omega,by omega,?_⟩
   exact ao (qf [])
  ·skip
   repeat' (first
    | refine ah ?_ ?_
    | refine af ?_
    | exact ai|refine ae fun hb=>?_
    | (refine iG (qf []) ?_;exact ab))
 ·rcases sL (n:=n) (t:=t) (k:=0) with h|⟨k,hk,hF,h2,h3⟩
  ·omega
  have hh:aV t n=true:=by simp [aV];omega
  have hq:bf t n=t[k]:=by
   obtain ⟨j,hj,hF2,hq,_⟩:=f7 hf
   have:j=k:=by rw [hF] at hF2;omega
   subst this
   exact hq
  rw [show mz n t=t[k].res by simp [mz,hh,hq],hh]
  repeat' (first
   | refine ah ?_ ?_
   | refine af ?_
   | exact ai|refine ae fun hb=>?_)
  refine ak (fun i=>i≤k) (fun i=>bH [4] [(0,.c (.sl fJ L)),(1,.c (.sc (.string n))),(4,.c (.ptr 4 0)),(6,.i i)] [(4,.box 159 [.sc (.string ⟨#[]⟩),.sc (.int .i64 0),.sc (.int .i64 0),.sc (.int .i64 0)])]) (fun i=>L.length-i) 0 (Nat.zero_le _) (by exact ao (qf [])) ?_
  intro i hi
  have hlt:i<L.length:=by omega
  by_cases hik:i=k
  ·subst hik
   have h1:=h2
   rw [←hLg i hlt] at h1 ⊢
   rw [beq_iff_eq] at h1
   repeat' (first
    | refine ah ?_ ?_
    | refine af ?_
    | exact ai|refine ae fun hb=>?_
    | (refine iG (qf []) ?_;exact ab))
  ·have h1:=h3 i (by omega)
   rw [←congrArg Rs.name (hLg i hlt)] at h1
   repeat' (first
    | refine ah ?_ ?_
    | refine af ?_
    | exact ai|(refine ae fun hb=>?_;first|(exact Bool.noConfusion (((beq_iff_eq.2 hb).symm.trans h1):true=false))|skip))
   refine ⟨i+1,by omega,by omega,?_⟩
   exact ao (qf [])
def qO (t:List Qu) (a:Tm):Int:=bif !aV t a.name then 10 else bif !aH (bf t a.name).res a.am then 12 else 0
theorem pK (t:List Qu) (n:ByteArray) {b:Bool} {r:Rs} (h:aV t n=b) (h2:mz n t=r):FSpec prog 243 [.one (.sl fJ (gA t)),.one (.sc (.string n))] [] [] (.tup [r.a,.one (.sc (.bool b))]) []:=h▸h2▸EX t n
theorem KR (t:List Qu) (a:Tm) (hV:ez t=true):FSpec prog 224 [.one (.sl fJ (gA t)),a.a] [] [] (.i (qO t a)) []:=by
 refine aX func224 ?_
 have hc:=JD hV
 cases hh:aV t a.name with
 | false =>
  have hr:mz a.name t=⟨⟨#[]⟩,0,0,0⟩:=by simp [mz,hh]
  rw [show qO t a=10 by simp [qO,hh]]
  repeat' (first
   | refine ah ?_ ?_
   | (refine aa 9 rfl ?_;first
    | (refine cB [] (mb (gA t) hc) ?_)
    | (refine cB [] (pK t a.name hh hr) ?_))
   | refine af ?_
   | exact ai|refine ae fun hb=>?_
   | (refine aE (qf []) ?_;exact ab))
 | true =>
  have hr:mz a.name t=(bf t a.name).res:=by simp [mz,hh]
  cases hf:aH (bf t a.name).res a.am with
  | false =>
   rw [show qO t a=12 by simp [qO,hh,hf]]
   repeat' (first
    | refine ah ?_ ?_
    | (refine aa 9 rfl ?_;first
     | (refine cB [] (mb (gA t) hc) ?_)
     | (refine cB [] (pK t a.name hh hr) ?_)
     | (refine cB [] (ii (bf t a.name).res a.am) ?_))
    | refine af ?_
    | exact ai|refine ae fun hb=>?_
    | (refine aE (qf []) ?_;exact ab))
  | true =>
   rw [show qO t a=0 by simp [qO,hh,hf]]
   repeat' (first
    | refine ah ?_ ?_
    | (refine aa 9 rfl ?_;first
     | (refine cB [] (mb (gA t) hc) ?_)
     | (refine cB [] (pK t a.name hh hr) ?_)
     | (refine cB [] (ii (bf t a.name).res a.am) ?_))
    | refine af ?_
    | exact ai|refine ae fun hb=>?_
    | (refine aE (qf []) ?_;exact ab))
theorem zT (t:List Qu) (a:Tm) (l:List Tm):gF t (a :: l)=bif !decide (qO t a=0) then qO t a else gF t l:=by
 rw [show gF t (a :: l)=bif !aV t a.name then 10 else bif !aH (bf t a.name).res a.am then 12 else gF t l from rfl]
 unfold qO
 cases aV t a.name <;> cases aH (bf t a.name).res a.am <;> rfl
theorem EY (t:List Qu) (a:Tm) (hV:ez t=true) {e:Int} (h:qO t a=e):FSpec prog 224 [.one (.sl fJ (gA t)),a.a] [] [] (.i e) []:=h▸KR t a hV
theorem KS (d:Nat) (t:List Qu) (x:Ex) (hV:ez t=true):FSpec prog 176 [.one (.sl fJ (gA t)),x.a d] [] [] (.i (iy t x)) []:=by
 refine aX func176 ?_
 have h8:=dh x
 obtain ⟨L,hL⟩:∃L,cP x=L:=⟨_,rfl⟩
 rw [hL] at h8
 cases hv:nE x with
 | false =>
  rw [show iy t x=1 by simp [iy,hv]]
  repeat' (first
   | refine ah ?_ ?_
   | refine aa 9 rfl (cC [] (kY d x hv hL) ?_)
   | refine af ?_
   | exact ai|refine ae fun hb=>?_
   | (refine aE (qf []) ?_;exact ab))
 | true =>
  rw [show iy t x=gF t L by simp [iy,hv,hL]]
  repeat' (first
   | refine ah ?_ ?_
   | refine aa 9 rfl (cC [] (kY d x hv hL) ?_)
   | refine af ?_
   | exact ai|refine ae fun hb=>?_)
  refine ak (fun i=>i≤L.length∧gF t (L.drop i)=gF t L) (fun i=>bH [] [(0,.c (.sl fJ (gA t))),(5,.c (.sl cr L)),(7,.i i)] []) (fun i=>L.length-i) 0 ⟨Nat.zero_le _,rfl⟩ (by exact ao (qf [])) ?_
  rintro i ⟨hi,hs⟩
  by_cases hlt:i<L.length
  ·rw [List.drop_eq_getElem_cons hlt,zT] at hs
   obtain ⟨e,he⟩:∃e,qO t L[i]=e:=⟨_,rfl⟩
   rw [he] at hs
   by_cases h0:e=0
   ·subst h0
    repeat' (first
     | refine ah ?_ ?_
     | refine aa 9 rfl (cB [] (EY t L[i] hV he) ?_)
     | refine af ?_
     | exact ai|(refine ae fun hb=>?_;first|(exact (hb rfl).elim)|skip))
    refine ⟨i+1,⟨by omega,by rw [←hs];rfl⟩,by omega,?_⟩
    exact ao (qf [])
   ·rw [←hs,decide_eq_false h0,Bool.not_false,cond_true]
    repeat' (first
     | refine ah ?_ ?_
     | refine aa 9 rfl (cB [] (EY t L[i] hV he) ?_)
     | refine af ?_
     | exact ai|refine ae fun hb=>?_
     | (refine aE (qf []) ?_;exact ab))
  ·rw [←hs,List.drop_eq_nil_of_le (by omega),show gF t []=0 from rfl]
   repeat' (first
    | refine ah ?_ ?_
    | refine af ?_
    | exact ai|refine ae fun hb=>?_
    | (refine aE (qf []) ?_;exact ab))
theorem mX (t:List Qu) (p:Pr) (a:Tm) (prio:Int):(bQ t p a prio).2.1.length≤18:=by
 unfold bQ
 cases hV:ez t with
 | false=>simp [fA]
 | true =>
  by_cases hf:bK a.name 0 t<0
  ·simp [hf,fA]
  ·obtain ⟨i,hi,hF,hq,hx⟩:=f7 hf
   have:=si (dJ hV (List.getElem_mem hi)) p a.am prio
   rw [hq]
   generalize (decide ((az t).length=8) && !decide (p∈az t))=b
   cases b <;> cases decide ((bG t[i] p a.am prio).2.2=0) <;> simp [hf,fA,gu] <;> omega
def HD (p:Pr) (prio:Int):List Tm→Wk→Prop
 | [],_=>True
 | a :: l,w=>w.ev.length≤900000∧HD p prio l (w.take (bQ w.c.queues p a prio).1 (bQ w.c.queues p a prio).2.1)
def KT (w:Wk) (i:Nat) (r:Rq):Prop:=i<w.c.procs.length∧ez w.c.queues=true∧w.c.queues.length≤100000∧((w.pc i).waiting=false→qL r=true→iy w.c.queues r.expr=0→HD (w.pc i).proc r.prio (cP r.expr) (Jw w i r)∧StOk (Db w i r).c.procs.length (Db w i r))
theorem zU (w:Wk) (i:Nat) (r:Rq):cL w i r=bif (w.pc i).waiting then (w,14) else bif !qL r then (w,1) else bif !decide (iy w.c.queues r.expr=0) then (w,iy w.c.queues r.expr) else (aU (Db w i r).c.procs.length (Db w i r),0):=rfl
theorem EZ (d:Nat) (w:Wk) (i:Nat) (r:Rq) (hok:KT w i r) {Z:Wk×Int} (hZ:cL w i r=Z):FSpec prog 129 [jR,jX i,r.a d] (HI d w) [3,4] (.i Z.2) (HO d Z.1):=by
 refine aX func129 ?_
 obtain ⟨hi,hV,hq8,hst⟩:=hok
 obtain ⟨x,hx⟩:∃x,w.c.procs[i]? = some x:=⟨_,List.getElem?_eq_getElem hi⟩
 have hpc:=jS hx
 rw [zU] at hZ
 unfold Db at hZ hst
 unfold Jw at hZ hst
 rw [hpc] at hZ hst
 have kV:=se d r
 cases hw:x.waiting with
 | true =>
  obtain rfl:Z=(w,14):=by rw [←hZ,hw];rfl
  repeat' (first
   | refine ah ?_ ?_
   | refine af ?_
   | exact ai|(refine ae fun hb=>?_;first|(cases hw.symm.trans hb;done)|skip)
   | (refine aE (qf [(3,1),(4,2)]) ?_;exact ab))
 | false =>
  rw [hw,cond_false] at hZ
  cases hr:qL r with
  | false =>
   obtain rfl:Z=(w,1):=by rw [←hZ,hr];rfl
   rw [hr] at kV
   repeat' (first
    | refine ah ?_ ?_
    | refine aa 9 rfl (cB [] (kV) ?_)
    | refine af ?_
    | exact ai|(refine ae fun hb=>?_;first|(cases hw.symm.trans hb;done)|skip)
    | (refine aE (qf [(3,1),(4,2)]) ?_;exact ab))
  | true =>
   rw [hr,Bool.not_true,cond_false] at hZ
   rw [hr] at kV
   have kC:=xR w.c.queues hq8
   have kR:=KS d w.c.queues r.expr hV
   obtain ⟨e,he⟩:∃e,iy w.c.queues r.expr=e:=⟨_,rfl⟩
   rw [he] at hZ hst kR
   by_cases h0:e=0
   case neg =>
    obtain rfl:Z=(w,e):=by rw [←hZ,decide_eq_false h0];rfl
    repeat' (first
     | refine ah ?_ ?_
     | (refine aa 9 rfl ?_;first
      | (refine cB [] (kV) ?_)
      | (refine cC [] (kC) ?_)
      | (refine cB [] (kR) ?_))
     | refine af ?_
     | exact ai|(refine ae fun hb=>?_;first|(cases hw.symm.trans hb;done)|(exact absurd hb h0)|skip)
     | (refine aE (qf [(3,1),(4,2)]) ?_;exact ab))
   obtain ⟨hcl,hs⟩:=hst hw hr h0
   rw [decide_eq_true h0,Bool.not_true,cond_false] at hZ
   obtain ⟨A,hA⟩:∃A,w.setP i { x with waiting:=true,req:=r,since:=w.c.now } = A:=⟨_,rfl⟩
   rw [hA] at hZ hcl hs
   have hAi:i<A.c.procs.length:=by rw [←hA,gv];exact hi
   obtain ⟨z,hz,hzp⟩:∃z,(be A i).c.procs[i]? = some z∧z.proc=x.proc:=by
    refine ⟨{ A.pc i with gen:=bh (A.pc i).gen },?_,?_⟩
    ·show (List.set _ _ _)[i]? = _
     rw [List.getElem?_set_self hAi]
    ·show (A.pc i).proc=x.proc
     rw [←hA]
     unfold Wk.pc Wk.setP
     rw [List.getD_eq_getElem?_getD,List.getElem?_set_self hi]
     rfl
   have h8:=dh r.expr
   obtain ⟨L,hL⟩:∃L,cP r.expr=L:=⟨_,rfl⟩
   rw [hL] at hZ hcl hs h8
   have hs1:=wd hi { x with waiting:=true }
   have hl1:(w.c.procs.set i { x with waiting:=true }).length=w.c.procs.length:=List.length_set
   have hs2:=wd (hl1▸hi) { x with waiting:=true,req:=r }
   have hl2:((w.c.procs.set i { x with waiting:=true }).set i { x with waiting:=true,req:=r }).length=w.c.procs.length:=by rw [List.length_set,hl1]
   have eA:A=⟨{ w.c with procs:=((w.c.procs.set i { x with waiting:=true }).set i { x with waiting:=true,req:=r }).set i { x with waiting:=true,req:=r,since:=w.c.now } },w.ev⟩:=by
    rw [←hA]
    unfold Wk.setP
    rw [List.set_set,List.set_set]
   have kX:=mR d A i hAi
   obtain ⟨B,hB⟩:∃B,be A i=B:=⟨_,rfl⟩
   rw [hB] at hZ hcl hs hz kX
   rw [eA] at kX
   obtain ⟨W,hW⟩:∃W,df x.proc r.prio L B=W:=⟨_,rfl⟩
   rw [hW] at hZ hs
   have kS:=ma d W _ hs
   obtain ⟨F,hF⟩:∃F,aU W.c.procs.length W=F:=⟨_,rfl⟩
   rw [hF] at hZ kS
   obtain rfl:Z=(F,0):=hZ.symm
   rw [←hzp] at hcl hW
   obtain ⟨Q,hQ⟩:∃Q,z.proc=Q:=⟨_,rfl⟩
   rw [hQ] at hcl hW
   repeat' (first
    | refine ah ?_ ?_
    | (refine aa 9 rfl ?_;first
     | (refine cB [] (kV) ?_)
     | (refine cC [] (kC) ?_)
     | (refine cB [] (kR) ?_)
     | (refine cH (qf [(1,1),(2,2),(3,1003),(4,1004)]) (kX) ?_)
     | (refine cC [] (ja d r.expr hL) ?_))
    | refine af ?_
    | (refine aa 4 rfl ?_;first
     | (refine bP (aI (z:={ x with waiting:=true }) rfl rfl rfl rfl hx rfl rfl rfl rfl (Nat.le_of_ble_eq_true rfl) rfl rfl) rfl rfl rfl ?_)
     | (refine bP (aI (z:={ x with waiting:=true,req:=r }) rfl rfl rfl rfl hs1 rfl rfl rfl rfl (Nat.le_of_ble_eq_true rfl) rfl rfl) rfl rfl rfl ?_)
     | (refine bP (aI (z:={ x with waiting:=true,req:=r,since:=w.c.now }) rfl rfl rfl rfl hs2 rfl rfl rfl rfl (Nat.le_of_ble_eq_true rfl) rfl rfl) rfl rfl rfl ?_))
    | exact ai|(refine ae fun hb=>?_;first|(cases hw.symm.trans hb;done)|(exact absurd h0 hb)|skip))
   refine ak (fun y:Nat×Wk=>y.1≤L.length∧y.2.c.procs=B.c.procs∧HD Q r.prio (L.drop y.1) y.2∧df Q r.prio (L.drop y.1) y.2=W) (fun y=>bH [0,1,2,5,1010,1011] [(0,.v jR),(1,.v (jX i)),(5,.c (.ptr 5 0)),(8,.c (.sl cr L)),(9,.i y.1)] [(0,.box 169 (Da y.2 1010 1011)),(5,.box 36 (r.d d)),(1010,.arr 38 (tF d) y.2.c.procs),(1011,.arr 296 ql y.2.ev)]) (fun y=>L.length-y.1) (0,B) ⟨Nat.zero_le _,rfl,hcl,hW⟩ (by exact ao (qf [(1010,1003),(1011,1004)])) ?_
   rintro ⟨k,v⟩ ⟨hk,hp,hv,hg⟩
   dsimp only at *
   by_cases hlt:k<L.length
   case neg =>
    obtain rfl:v=W:=by rw [←hg,List.drop_eq_nil_of_le (by omega)];rfl
    repeat' (first
     | refine ah ?_ ?_
     | refine aa 9 rfl (cH (qf [(1,1010),(2,1011),(3,1020),(4,1021)]) (kS) ?_)
     | refine af ?_
     | exact ai|refine ae fun hb=>?_
     | (refine aE (qf [(3,1020),(4,1021)]) ?_;exact ab))
   rw [List.drop_eq_getElem_cons hlt] at hv hg
   obtain ⟨a,ha⟩:∃a,L[k]=a:=⟨_,rfl⟩
   have hga:L[k]? = some a:=by rw [List.getElem?_eq_getElem hlt,ha]
   rw [ha] at hv hg
   obtain ⟨v1,v2⟩:=hv
   have hg:df Q r.prio (L.drop (k+1)) (v.take (bQ v.c.queues Q a r.prio).1 (bQ v.c.queues Q a r.prio).2.1)=W:=hg
   obtain ⟨R,hR⟩:∃R,bQ v.c.queues Q a r.prio=R:=⟨_,rfl⟩
   have hll:=mX v.c.queues Q a r.prio
   rw [hR] at hll v2 hg
   have hzv:v.c.procs[i]? = some z:=by rw [hp];exact hz
   have hiv:=(List.getElem?_eq_some_iff.1 hzv).1
   have kT:=Ht v.c.queues Q a r.prio hR
   rw [←hQ] at kT
   repeat' (first
    | refine ah ?_ ?_
    | (refine aa 9 rfl ?_;first
     | (refine cC [] (kT) ?_)
     | (refine cH (qf [(1,1010),(2,1011),(3,1020),(4,1021)]) (qq d v R.1 R.2.1 (by omega)) ?_))
    | refine af ?_
    | exact ai|refine ae fun hb=>?_)
   refine ⟨(k+1,v.take R.1 R.2.1),⟨by dsimp only;omega,hp,v2,hg⟩,by dsimp only;omega,?_⟩
   exact ao (qf [(1010,1020),(1011,1021)])
instance (d:Nat):ST prog (tF d) 46 38 184:=⟨ElTB.mk' underlying46 (.agg #[.int .i64 0,.int .i64 0,.int .i64 0,.int .i64 0,.slice none 0 0,.slice none 0 0,.bool false,.int .i64 0,.string ⟨#[]⟩,.int .i64 0,.int .i64 0,.slice none 0 0,.int .i64 0,.int .i64 0,.int .i64 0,.int .i64 0]) 16 184 (by kernel_rfl) rfl rfl⟩
def KU (w:Wk) (i:Nat):Prop:=i<w.c.procs.length∧w.c.procs.length≤100000∧w.ev.length≤900000∧(bN w.c.queues (w.pc i).proc).2.length≤1000∧StOk (Iu w i).c.procs.length (Iu w i)
theorem HF (w:Wk) (i:Nat):iE w i=aU (Iu w i).c.procs.length (Iu w i):=rfl
theorem KV (d:Nat) (w:Wk) (i:Nat) (hok:KU w i):FSpec prog 136 [jR,jX i] (HI d w) [3,4] (.tup []) (HO d (iE w i)):=by
 refine aX func136 ?_
 obtain ⟨hi,hp8,hev,hrl,hs⟩:=hok
 obtain ⟨x,hx⟩:∃x,w.c.procs[i]? = some x:=⟨_,List.getElem?_eq_getElem hi⟩
 have hpc:=jS hx
 rw [HF]
 unfold Iu at hs ⊢
 rw [hpc] at hs hrl ⊢
 obtain ⟨R,hR⟩:∃R,bN w.c.queues x.proc=R:=⟨_,rfl⟩
 rw [hR] at hs hrl ⊢
 have kR:=EL w.c.queues x.proc hR
 have hcut:w.c.procs.take i++w.c.procs.drop (i+1)=w.c.procs.eraseIdx i:=(List.eraseIdx_eq_take_drop_succ ..).symm
 have kN:=Eu d ⟨{ w.c with queues:=R.1,procs:=w.c.procs.eraseIdx i },w.ev++R.2⟩ 5 x.proc (by simp;omega)
 have kS:=ma d _ _ hs
 have hlq:(w.take R.1 R.2).c.procs.length=w.c.procs.length:=rfl
 repeat' (first
  | refine ah ?_ ?_
  | (refine aa 9 rfl ?_;first
   | (refine cC [] (kR) ?_)
   | (refine cH (qf [(3,1003),(4,1004)]) (qq d w R.1 R.2 (by omega)) ?_)
   | (refine cH (qf [(1,42),(2,1004),(3,1005),(4,1006)]) (kN) ?_)
   | (refine cH (qf [(1,1005),(2,1006),(3,1007),(4,1008)]) (kS) ?_))
  | refine af ?_
  | exact ai|refine ae fun hb=>?_
  | (refine aM (D1 rfl rfl rfl rfl rfl rfl (by first|omega|(show _≤w.c.procs.length;omega)) (by first|omega|(show 0<w.c.procs.length;omega))) rfl rfl rfl ?_)
  | (refine aM (D2 (j:=i+1) rfl rfl rfl rfl rfl (by first|omega|(show _≤w.c.procs.length;omega)) (by first|omega|(show 0<w.c.procs.length;omega))) rfl rfl rfl ?_)
  | (refine aM (zx rfl rfl rfl rfl rfl rfl (by first|omega|(show _≤w.c.procs.length;omega)) (by first|omega|(show _≤w.c.procs.length;omega)) hcut (by simp only [maxLen];omega) (by omega)) rfl rfl rfl ?_)
  | (exact D7 (qf [(3,1007),(4,1008)])))
section
variable {P:Program} {o:Oper} {s:Mst} {α:Type} {E:El α}
theorem E0 {t e:TypeId} {by_ k kr:Nat} {x y:Operand} {l m l':List α} {R:List Nat} [T:ST P E t e by_] (ho:o.op = .call { callee:=.builtin .append,args:=#[x,y],argTypes:=#[t,t] }) (hdk:o.dst=some k) (hx:s.ev x = .c (.ocut kr)) (hkr:s.h kr=some (.arr e E l)) (hy:Ij s E y m R) (hl':l++m=l') (hm:0<m.length)
  (hlen:l.length+m.length≤maxLen) (hby:(l.length+m.length)*by_≤140737488355328):LOp P o s (kr :: R) ⟨.c (.ocut k),[(k,some (.arr e E l')),(kr,none)],[k]⟩:=by
 intro c st ρ a w hr h1 h2 h3 h4
 subst hl'
 have hfk:st.f k=true:=h3 k (by simp [aF])
 have hk2:=(h2 kr (by simp [aF])).trans hkr
 have hne:k.beq kr=false:=by
  cases h9:k.beq kr with
  | false=>rfl
  | true=>rw [←Nat.eq_of_beq_eq_true h9,hr.wf.h k hfk] at hk2;cases hk2
 have hv1:=hr.ev x
 rw [h1 x (by simp [ho,Op.operands,Call.operands]),hx] at hv1
 obtain ⟨A1,n1,cap1,c1,hρ1,⟨b1,b2⟩,hv1⟩:=(show (D.ocut kr).rep w (Fz c st.h ρ w) ρ (a.eval x) from hv1)
 obtain ⟨xs,hown,hreps⟩:=hr.hp kr _ hk2
 obtain ⟨A,cap,ys,hyv,hyr,hyc⟩:=hy c st ρ a w hr (h1 y (by simp [ho,Op.operands,Call.operands])) fun j hj=>h2 j (by simp only [aF,hj,Bool.or_true])
 obtain ⟨b,off,hA,hcells⟩:=hyc hm
 subst hA
 have hyl:=hyr.length
 have hpos:=E.pos
 obtain ⟨ti,z,hi1,hi2,hi3,hi4,hi5⟩:=T.T.info
 have hexec:∀v' w',(Builtin.append_ #[t,t] o.type #[.slice A1 n1 c1,.slice (some ⟨b,off,none⟩) m.length cap]).run P w = .ok v' w'→(execOp a.eval o).run P w = .ok (.value v') w':=fun v' w' hrun=>by
  unfold execOp
  simp only [ho,resolve,invoke,builtin,Sem.run_bind,Sem.run_pure,Result.andThen_ok,List.map_toArray,List.map_cons,List.map_nil,hv1,hyv,hrun]
 have hya:∀j u,ys[j]? = some u→w.cell? ((⟨b,off,none⟩:Addr).add j)=some u:=fun j u hu=>by
  rw [dx]
  exact hcells j u hu
 rw [hρ1] at hown
 have hxl:=hown.1
 have hn1:n1=l.length∧(A1=none→c1=cap1):=by
  rcases hown.2 with ⟨hv,hz⟩|⟨g,cap',cur,hv,_⟩
  ·injection hv with e1 e2 e3
   exact ⟨by omega,fun _=>by omega⟩
  ·injection hv with e1 e2 e3
   exact ⟨e2,fun h=>by rw [h] at e1;cases e1⟩
 obtain ⟨rfl,hn1⟩:=hn1
 have hyo:∀u∈ys,u.oneCell'=true:=hyr.one
 have key:∃v' vg w',(execOp a.eval o).run P w = .ok (.value v') w'∧w'.ownsRow 0 e E.n vg (l.length+m.length) (xs++ys)∧w.grownBy w' (Value.slice A1 l.length cap1).ownBlock∧(∀g,vg.ownBlock=some g→(Value.slice A1 l.length cap1).ownBlock=some g∨w.heap.size≤g)∧∃A n cap c,vg = .slice A n cap∧(n≤c∧c≤cap)∧v' = .slice A n c:=by
  obtain ⟨v',w',hrun,ho1,hgr,_,hob⟩:=run_append_own_at (P:=P) w 0 t o.type e ti z E.n by_ T.T.under hi1 hi2 hi3 hi5 hi4 hpos (.slice A1 l.length cap1) l.length xs hown ⟨b,off,none⟩ m.length cap ys hyl hya hyo hlen hby (Nat.zero_le _)
  have hform:∃A n cap,v' = .slice A n cap∧n≤cap:=by
   rcases ho1.2 with ⟨hv,_⟩|⟨g',cap',cur',hv,_,_,hnc,_⟩
   ·exact ⟨none,0,0,hv,Nat.le_refl _⟩
   ·exact ⟨_,_,_,hv,hnc⟩
  have hobg:∀g,v'.ownBlock=some g→(Value.slice A1 l.length cap1).ownBlock=some g∨w.heap.size≤g:=fun g hg=>by
   rcases hob with h|h
   ·exact .inl (h▸hg)
   ·rw [h] at hg;injection hg with hg;exact .inr (by omega)
  by_cases hcc:c1=cap1
  ·subst hcc
   obtain ⟨A,n,cp,hv',hnc⟩:=hform
   exact ⟨v',v',w',hexec _ _ hrun,ho1,hgr,hobg,A,n,cp,cp,hv',⟨hnc,Nat.le_refl _⟩,hv'⟩
  ·cases A1 with
   | none=>exact absurd (hn1 rfl) hcc
   | some g0 =>
    obtain ⟨g,cur,rfl,hh,hcm,hcs,ht⟩:∃g cur,g0=⟨g,0,none⟩∧w.heap[g]? = some (.cells cur e (0,0))∧cap1≤maxLen∧cur.size=cap1*E.n∧cur.toList.take (l.length*E.n)=xs:=by
     rcases hown.2 with ⟨hv,_⟩|⟨g',cap',cur,hv,_,hh,_,q1,q2,q3⟩
     ·cases hv
     ·injection hv with e1 e2 e3
      injection e1 with e1
      subst e3
      exact ⟨g',cur,e1,hh,q1,q2,q3⟩
    have hcell:∀j u,xs[j]? = some u→w.cell? ((⟨g,0,none⟩:Addr).add j)=some u:=fun j u hu=>by
     rw [dx,Nat.zero_add,cell_of_row w g j cur e (0,0) hh,←Array.getElem?_toList]
     rw [←ht,List.getElem?_take] at hu
     split at hu
     ·exact hu
     ·cases hu
    by_cases hroom:l.length+m.length≤c1
    ·have hsz:(l.length+m.length)*E.n≤cap1*E.n:=Nat.mul_le_mul_right _ (by omega)
     have hin:∀j,j<ys.length→l.length*ti.size+j<cur.size:=fun j hj=>by rw [hcs,hi3];rw [hyl] at hj;rw [Nat.add_mul] at hsz;omega
     have hc:∀j,j<ys.length→(w.cell? ⟨g,0+l.length*ti.size+j,none⟩).isSome=true:=fun j hj=>by
      rw [cell_of_row w g _ cur e (0,0) hh]
      simp [Nat.zero_add,hin j hj]
     have hf:∀j,j<ys.length→w.frozen? ⟨g,0+l.length*ti.size+j,none⟩=false:=fun j _=>frozen_of_row w g _ cur e hh
     have r1:=run_append_room_cells (P:=P) w t o.type e ti T.T.under hi1 g 0 l.length cap1 ⟨b,off,none⟩ m.length cap ys (by rw [hi3];exact hyl) hya hyo (by omega) hc hf
     have r2:=run_append_room_cells (P:=P) w t o.type e ti T.T.under hi1 g 0 l.length c1 ⟨b,off,none⟩ m.length cap ys (by rw [hi3];exact hyl) hya hyo hroom hc hf
     rw [hrun] at r1
     injection r1 with r1 r1'
     subst r1
     subst r1'
     exact ⟨_,_,_,hexec _ _ r2,ho1,hgr,hobg,_,_,_,_,rfl,⟨hroom,b2⟩,rfl⟩
    ·obtain ⟨v2,w2,hrun2,ho2,hgr2⟩:=run_append_arg_grows (P:=P) w t o.type e ti z E.n by_ T.T.under hi1 hi2 hi3 hi5 hi4 hpos ⟨g,0,none⟩ l.length c1 xs hxl hcell ⟨b,off,none⟩ m.length cap ys hyl hya (by omega) hlen hby
     obtain ⟨g',cap',rfl,hb1,hb3⟩:∃g' cap',v2 = .slice (some ⟨g',0,none⟩) (l.length+m.length) cap'∧w.heap.size≤g'∧l.length+m.length≤cap':=by
      rcases ho2.2 with ⟨_,hz⟩|⟨g',cap',cur',hv,hb,_,hnc',_⟩
      ·omega
      ·exact ⟨g',cap',hv,hb,hnc'⟩
     refine ⟨_,_,w2,hexec _ _ hrun2,⟨ho2.1,ho2.2.imp id fun ⟨a1,a2,a3,a4,_,a6⟩=>⟨a1,a2,a3,a4,Nat.zero_le _,a6⟩⟩,⟨hgr2.os,hgr2.tape,hgr2.output,hgr2.size,fun b hb _=>hgr2.block b hb (by simp)⟩,fun g2 hg2=>.inr ?_,_,_,cap',cap',rfl,⟨hb3,Nat.le_refl _⟩,rfl⟩
     injection hg2 with hg2
     simp at hg2
     omega
 obtain ⟨v',vg,w',hrun,ho1,hgr,hob,A',n',cap',c',hvg,hcc,hv'⟩:=key
 have hob1:∀{g:Nat} {u:Value},(∃A n cap,u = .slice A n cap)→(kb u=some g↔u.ownBlock=some g):=fun {g u} ⟨A,n,cap,h⟩=>by
  subst h
  cases A <;> exact Iff.rfl
 have hkb:∀g,(Value.slice A1 l.length cap1).ownBlock=some g↔kb (ρ kr)=some g:=fun g=>by rw [hρ1];exact (hob1 ⟨_,_,_,rfl⟩).symm
 have hg':∀g,kb vg=some g→g<w'.heap.size∧(w.heap.size≤g∨kb (ρ kr)=some g):=fun g hg=>by
  have h:=(hob1 ⟨_,_,_,hvg⟩).1 hg
  exact ⟨(ho1.lt g h).2,(hob g h).symm.imp id (hkb g).1⟩
 have hky:∀n,aA [(k,some (Box.arr e E (l++m))),(kr,none)] n=true↔n=k∨n=kr:=fun n=>by
  simp only [aA,Bool.or_false,Bool.or_eq_true]
  constructor
  ·rintro (h|h)
   ·exact .inl (Nat.eq_of_beq_eq_true h).symm
   ·exact .inr (Nat.eq_of_beq_eq_true h).symm
  ·rintro (rfl|rfl)
   ·exact .inl (Nat.beq_refl _)
   ·exact .inr (Nat.beq_refl _)
 have hputk:hput [(k,some (Box.arr e E (l++m))),(kr,none)] st.h k=some (.arr e E (l++m)):=by simp [hput]
 have hputr:hput [(k,some (Box.arr e E (l++m))),(kr,none)] st.h kr=none:=by simp [hput,hne]
 have hsm:∀n bx,aA [(k,some (Box.arr e E (l++m))),(kr,none)] n=true→hput [(k,some (Box.arr e E (l++m))),(kr,none)] st.h n=some bx→n=k∧bx = .arr e E (l++m):=fun n bx hn hb=>by
  rcases (hky n).1 hn with rfl|rfl
  ·rw [hputk] at hb;exact ⟨rfl,(Option.some.inj hb).symm⟩
  ·rw [hputr] at hb;cases hb
 have hblk:∀b,b<w.heap.size→kb (ρ kr)≠some b→w'.heap[b]? = w.heap[b]?:=fun b hlt hn=>hgr.block b hlt fun he=>hn ((hkb b).1 he.symm)
 have hFz:∀b,Fz c st.h ρ w b→Fz c (hput [(k,some (Box.arr e E (l++m))),(kr,none)] st.h) (upd ρ k vg) w' b∧w'.heap[b]? = w.heap[b]?:=fun b hb=>by
  have hnb:=hb.2.2 kr _ hk2
  refine ⟨⟨hb.1,Nat.lt_of_lt_of_le hb.2.1 hgr.size,fun n bx hn he=>?_⟩,hblk b hb.2.1 hnb⟩
  cases h9:aA [(k,some (Box.arr e E (l++m))),(kr,none)] n with
  | true =>
   obtain ⟨rfl,_⟩:=hsm n bx h9 hn
   rw [aL] at he
   rcases (hg' b he).2 with h|h
   ·have:=hb.2.1;omega
   ·exact hnb h
  | false =>
   rw [bR h9] at hn
   have hkn:k.beq n=false:=by
    cases h8:k.beq n with
    | false=>rfl
    | true=>rw [←Nat.eq_of_beq_eq_true h8,hr.wf.h k hfk] at hn;cases hn
   rw [dB hkn] at he
   exact hb.2.2 n bx hn he
 refine Oper.wp_value hrun ⟨upd ρ k vg,hr.app (e:=⟨.c (.ocut k),[(k,some (.arr e E (l++m))),(kr,none)],[k]⟩) h4 (fun n hn=>?_) (fun n hn=>dB (by simpa [aF] using hn)) (fun n hn=>?_) ⟨hgr.os,hgr.tape,hgr.output,hgr.size,fun b hlt hn=>hblk b hlt fun e=>hn ⟨kr,_,(hky kr).2 (.inr rfl),hk2,e⟩⟩ (fun n bx g' hn hb hg=>?_) (fun n n' b b' g' hn hn' hb hb' _ _=>?_) (fun n hn=>.inl ?_) (fun n n' bx hn hb hx2=>?_) (fun n bx hn hb=>?_) ?_⟩
 ·have:n=k:=by simp [aF] at hn;exact hn.symm
  subst this
  exact ⟨hfk,(hky n).2 (.inl rfl)⟩
 ·rcases (hky n).1 hn with rfl|rfl
  ·exact .inl (by simp [aF])
  ·exact .inr (hr.nfh hk2)
 ·obtain ⟨rfl,_⟩:=hsm n bx hn hb
  rw [aL] at hg
  exact ⟨(hg' g' hg).1,(hg' g' hg).2.imp id fun h=>⟨kr,_,(hky kr).2 (.inr rfl),hk2,h⟩⟩
 ·rw [(hsm n b hn hb).1,(hsm n' b' hn' hb').1]
 ·have:n=k:=by simp [TV.has,V0.has,D.has] at hn;exact hn.symm
  subst this
  simp [aF]
 ·rw [(hsm n' bx hn hb).2] at hx2
  simp [Box.has] at hx2
 ·obtain ⟨rfl,rfl⟩:=hsm n bx hn hb
  rw [aL]
  exact ⟨xs++ys,by rw [List.length_append];exact ho1,(hreps.append hyr).same (fun b hb=>(hFz b hb).2) fun b hb=>(hFz b hb).1⟩
 ·exact ⟨A',n',cap',c',(aL ρ k vg).trans hvg,hcc,hv'⟩
end
theorem yd (l:List Pc) (d:Nat) (p:Pr):FSpec prog 122 [.one (.sl (tF d) l),.ag [.sc (.int .i64 p.site),.sc (.int .i64 p.inc),.sc (.int .i64 p.num)]] [] [] (.i (fo p 0 l)) []:=by
 refine gg func122 rfl (fun b W=>by kernel_rfl) rfl (Nat.le_of_ble_eq_true rfl) ?_
 refine aR (fun c ρ a w hr=>cu (t:=0) hr rfl) (fun hl=>?_)
 repeat' (first
  | refine ah ?_ ?_
  | refine af ?_
  | exact ai|refine ae fun hb=>?_)
 refine ak (fun i=>i≤l.length∧fo p i (l.drop i)=fo p 0 l) (fun i=>bH [3] [(0,.c (.sl (tF d) l)),(3,.c (.ptr 3 0)),(5,.i i)] [(3,.box 23 [.sc (.int .i64 p.site),.sc (.int .i64 p.inc),.sc (.int .i64 p.num)])]) (fun i=>l.length-i) 0 ⟨Nat.zero_le _,rfl⟩
  (by refine DJ (qf []) rfl ?_ ?_ <;> repeat' (first|exact trivial|exact jw rfl|exact ⟨_,rfl,gh rfl⟩|refine ⟨?_,?_⟩)) ?_
 rintro i ⟨hi,hs⟩
 repeat' (first
  | refine ah ?_ ?_
  | refine af ?_
  | exact ai|refine ae fun hb=>?_)
 ·refine zn (.inr rfl) rfl rfl ?_
  rw [←hs,List.drop_eq_getElem_cons (by omega)]
  simp [fo,hb]
 ·refine ⟨i+1,⟨by omega,?_⟩,by omega,?_⟩
  ·rw [←hs,List.drop_eq_getElem_cons (i:=i) (by omega)]
   simp [fo,hb]
  ·refine DJ (qf []) rfl ?_ ?_ <;> repeat' (first|exact trivial|exact jw rfl|exact ⟨_,rfl,gh rfl⟩|refine ⟨?_,?_⟩)
 ·refine zn (.inr rfl) rfl rfl ?_
  rw [←hs,List.drop_eq_nil_of_le (by omega)]
  rfl
def KX (p:Pr) (P:List Pc):Prop:=∀i j (hi:i<P.length) (hj:j<P.length),i≤j→0<cU P[i].proc p→0<cU P[j].proc p
theorem E1 (x:Pc):∀(P:List Pc) (k:Nat),k≤P.length→(∀j (hj:j<P.length),j<k→¬0<cU P[j].proc x.proc)→(∀j (hj:j<P.length),k≤j→0<cU P[j].proc x.proc)→nY x P=P.take k++x :: P.drop k
 | [],k,hk,_,_=>by
  obtain rfl:k=0:=by simpa using hk
  rfl
 | y :: P,0,_,_,h2=>by
  have:=h2 0 (by simp) (Nat.le_refl _)
  simp only [List.getElem_cons_zero] at this
  simp [nY,this]
 | y :: P,k+1,hk,h1,h2=>by
  have h3:=h1 0 (by simp) (by omega)
  simp only [List.getElem_cons_zero] at h3
  have ih:=E1 x P k (by simpa using hk) (fun j hj hjk=>by have:=h1 (j+1) (by simpa using hj) (by omega);simpa using this) (fun j hj hjk=>by have:=h2 (j+1) (by simpa using hj) (by omega);simpa using this)
  simp [nY,h3,ih]
theorem HH {P:List Pc} {x:Pc} {k:Nat} (hk:k<P.length):((P.take (k+1)++x :: P.drop (k+1)).set (k+1) P[k]).set k x=P.take k++x :: P.drop k:=by
 have hl:(P.take k).length=k:=by simp;omega
 rw [List.take_succ_eq_append_getElem hk,List.drop_eq_getElem_cons hk,List.append_assoc,List.singleton_append]
 generalize P.take k=A at *
 generalize P.drop (k+1)=B at *
 generalize P[k]=z at *
 rw [List.set_append_right _ _ (by omega),show k+1-A.length=1 by omega,List.set_cons_succ,List.set_cons_zero,List.set_append_right _ _ (by omega),show k-A.length=0 by omega,List.set_cons_zero]
theorem wn (l:List Pc) (d:Nat) (p:Pr) {z:Int} (h:fo p 0 l=z):FSpec prog 122 [.one (.sl (tF d) l),p.a] [] [] (.i z) []:=h▸yd l d p
theorem KY (d:Nat) (w:Wk) (p:Pr) (cost:Int) (h8:w.c.procs.length≤100000) (hup:KX p w.c.procs) {Z:Wk×Int} (hZ:mu w p cost=Z):FSpec prog 127 [jR,p.a,jX cost] (HI d w) [3,4] (.i Z.2) (HO d Z.1):=by
 refine aX func127 ?_
 unfold mu at hZ
 have kV:=d7 p
 obtain ⟨bA,hA⟩:∃b,(fI p && decide (1≤cost) && decide (cost≤1000))=b:=⟨_,rfl⟩
 rw [hA] at hZ
 cases bA with
 | false =>
  obtain rfl:Z=(w,1):=by rw [←hZ];rfl
  obtain ⟨v,hv⟩:∃v,fI p=v:=⟨_,rfl⟩
  rw [hv] at kV hA
  cases v with
  | false =>
   repeat' (first
    | refine ah ?_ ?_
    | refine aa 9 rfl (cB [] (kV) ?_)
    | refine af ?_
    | exact ai|refine ae fun hb=>?_
    | (refine aE (qf [(3,1),(4,2)]) ?_;exact ab))
  | true =>
   simp only [Bool.true_and,Bool.and_eq_false_iff,decide_eq_false_iff_not] at hA
   by_cases h1:1≤cost
   ·repeat' (first
     | refine ah ?_ ?_
     | refine aa 9 rfl (cB [] (kV) ?_)
     | refine af ?_
     | exact ai|refine ae fun hb=>?_
     | (refine aE (qf [(3,1),(4,2)]) ?_;exact ab))
   ·repeat' (first
     | refine ah ?_ ?_
     | refine aa 9 rfl (cB [] (kV) ?_)
     | refine af ?_
     | exact ai|refine ae fun hb=>?_
     | (refine aE (qf [(3,1),(4,2)]) ?_;exact ab))
 | true =>
  simp only [Bool.and_eq_true,decide_eq_true_eq] at hA
  obtain ⟨⟨hv,h1⟩,h2⟩:=hA
  rw [hv] at kV
  rw [Bool.not_true,cond_false] at hZ
  obtain ⟨ix,hix⟩:∃ix,fo p 0 w.c.procs=ix:=⟨_,rfl⟩
  have kI:=wn w.c.procs d p hix
  rw [hix] at hZ
  by_cases h0:0≤ix
  ·obtain rfl:Z=(w,11):=by rw [←hZ,decide_eq_true h0];rfl
   repeat' (first
    | refine ah ?_ ?_
    | (refine aa 9 rfl ?_;first
     | (refine cB [] (kV) ?_)
     | (refine cB [1] (kI) ?_))
    | refine af ?_
    | exact ai|refine ae fun hb=>?_
    | (refine aE (qf [(3,1),(4,2)]) ?_;exact ab))
  ·rw [decide_eq_false h0,cond_false] at hZ
   by_cases hl:w.c.procs.length=8
   ·obtain rfl:Z=(w,4):=by rw [←hZ,decide_eq_true hl];rfl
    repeat' (first
     | refine ah ?_ ?_
     | (refine aa 9 rfl ?_;first
      | (refine cB [] (kV) ?_)
      | (refine cB [1] (kI) ?_))
     | refine af ?_
     | exact ai|refine ae fun hb=>?_
     | (refine aE (qf [(3,1),(4,2)]) ?_;exact ab))
   ·rw [decide_eq_false hl,cond_false] at hZ
    obtain ⟨R0,hR0⟩:∃R0,w.c.procs++[{ Gd with proc:=p,cost:=cost }]=R0:=⟨_,rfl⟩
    obtain ⟨P,hP⟩:∃P,w.c.procs=P:=⟨_,rfl⟩
    have hR0l:R0.length=P.length+1:=by rw [←hR0,hP];simp
    have hPl:P.length≤100000:=hP▸h8
    repeat' (first
     | refine ah ?_ ?_
     | (refine aa 9 rfl ?_;first
      | (refine cB [] (kV) ?_)
      | (refine cB [1] (kI) ?_))
     | refine af ?_
     | exact ai|refine ae fun hb=>?_
     | (refine aM (E0 rfl rfl rfl rfl (xJ [{ Gd with proc:=p,cost:=cost }] rfl rfl (by (repeat' (first|exact trivial|exact .same _|exact .nil|refine ⟨?_,?_⟩));first|done|fail) rfl) hR0 (by simp) (by simp only [List.length_cons,List.length_nil,maxLen];omega) (by simp only [List.length_cons,List.length_nil];omega)) rfl rfl rfl ?_))
    obtain ⟨x,hx⟩:∃x,({ Gd with proc:=p,cost:=cost }:Pc)=x:=⟨_,rfl⟩
    have hxp:x.proc=p:=by rw [←hx]
    have hR0':R0=P.take P.length++x :: P.drop P.length:=by rw [←hR0,hP,hx];simp
    have hZ:((⟨{ w.c with procs:=nY x w.c.procs },w.ev⟩,0):Wk×Int)=Z:=by rw [←hx];exact hZ
    clear hR0 hx hix kI kV
    rw [hP] at hup
    refine ak (fun y:Nat×List Pc=>y.1≤P.length∧y.2=P.take y.1++x :: P.drop y.1∧∀j (hj:j<P.length),y.1≤j→0<cU P[j].proc p) (fun y=>bH [0,1,2,4,1010] [(0,.v jR),(4,.c (.ptr 4 0)),(7,.c (.ocut 1010)),(8,.i y.1)] [(0,.box 169 (Da w 1 2)),(2,.arr 296 ql w.ev),(4,.box 23 [.sc (.int .i64 p.site),.sc (.int .i64 p.inc),.sc (.int .i64 p.num)]),(1010,.arr 38 (tF d) y.2)]) (fun y=>y.1) (P.length,R0) ⟨Nat.le_refl _,hR0',fun j hj h=>absurd hj (by dsimp only at h;omega)⟩ (by exact ao (qf [(1010,45)])) ?_
    clear hR0' hR0l R0
    rintro ⟨k,R⟩ ⟨hk,hR,hgt⟩
    dsimp only at *
    have hRl:R.length=P.length+1:=by rw [hR];simp;omega
    have hRk:R[k]? = some x:=by
     rw [hR,List.getElem?_append_right (by simp;omega)]
     simp
     rw [Nat.min_eq_left hk]
     simp
    have fin:(∀j (hj:j<P.length),j<k→¬0<cU P[j].proc p)→R=nY x w.c.procs:=fun h=>by
     rw [hR,hP]
     exact (E1 x P k hk (by rw [hxp];exact h) (by rw [hxp];exact hgt)).symm
    cases k with
    | zero =>
     have hf:=fin (fun j _ h=>absurd h (by omega))
     rw [←hf] at hZ
     obtain rfl:Z=(⟨{ w.c with procs:=R },w.ev⟩,0):=hZ.symm
     repeat' (first
      | refine ah ?_ ?_
      | refine af ?_
      | exact ai|refine ae fun hb=>?_
      | (refine aE (qf [(3,1010),(4,2)]) ?_;exact ab))
    | succ j =>
     have hj:j<P.length:=hk
     obtain ⟨z,hz⟩:∃z,P[j]=z:=⟨_,rfl⟩
     have ej:(((j+1:Nat):Int)-1).toNat=j:=by omega
     have hRj:R[(((j+1:Nat):Int)-1).toNat]? = some z:=by
      rw [ej,hR,List.getElem?_append_left (by simp;omega),List.getElem?_take,if_pos (by omega),List.getElem?_eq_getElem hj,hz]
     obtain ⟨e,he⟩:∃e,cU z.proc x.proc=e:=⟨_,rfl⟩
     have kC:=ij z.proc x.proc
     rw [he] at kC
     by_cases h0:0<e
     ·have hR1:(R.set (j+1) z)[(((j+1:Nat):Int)-1).toNat]? = some z:=by
       rw [List.getElem?_set_ne (by omega)]
       exact hRj
      have hl1:(R.set (j+1) z).length=R.length:=List.length_set
      repeat' (first
       | refine ah ?_ ?_
       | refine aa 9 rfl (cB [1010] (kC) ?_)
       | refine af ?_
       | (refine aa 4 rfl ?_;first
        | (refine bP (aI (z:=z) rfl rfl rfl rfl hRk rfl rfl rfl rfl (Nat.le_of_ble_eq_true rfl) rfl rfl) rfl rfl rfl ?_)
        | (refine bP (aI (z:=x) rfl rfl rfl rfl hR1 rfl rfl rfl rfl (Nat.le_of_ble_eq_true rfl) rfl rfl) rfl rfl rfl ?_))
       | exact ai|refine ae fun hb=>?_)
      refine ⟨(j,(R.set (j+1) z).set (((j+1:Nat):Int)-1).toNat x),⟨by dsimp only;omega,?_,fun i hi hij=>?_⟩,by dsimp only;omega,?_⟩
      ·dsimp only
       rw [ej,hR,←hz]
       exact HH hj
      ·dsimp only at hij
       by_cases e2:i=j
       ·subst e2
        rw [hz,←hxp,he]
        exact h0
       ·exact hgt i hi (by omega)
      ·exact ao (qf [])
     ·have hf:=fin (fun i hi hij hpos=>h0 (by
       have:=hup i j hi hj (by omega) hpos
       rw [hz,←hxp,he] at this
       exact this))
      rw [←hf] at hZ
      obtain rfl:Z=(⟨{ w.c with procs:=R },w.ev⟩,0):=hZ.symm
      repeat' (first
       | refine ah ?_ ?_
       | refine aa 9 rfl (cB [1010] (kC) ?_)
       | refine af ?_
       | exact ai|refine ae fun hb=>?_
       | (refine aE (qf [(3,1010),(4,2)]) ?_;exact ab))
theorem ou (w:Wk) (t:List Qu) (ev:List Ev):(w.take t ev).ev.length=w.ev.length+ev.length:=List.length_append
theorem E4 (w:Wk) (p:Pr) (n:ByteArray):(ic w p n).ev.length≤w.ev.length+17:=by
 unfold ic lL
 cases (ap (bf w.c.queues n) p).isSome with
 | false=>simp
 | true=>rw [cond_true,ou];have:=qv w.c.queues p n;omega
theorem sM (w:Wk) (p:Pr) (n:ByteArray) (l:Am):(cI w p n l).ev.length≤w.ev.length+18:=by
 unfold cI eX
 cases decide (aq (bf w.c.queues n).holds p=l) with
 | true=>simp
 | false=>rw [cond_false,ou];have:=fV w.c.queues p ⟨n,l⟩;omega
theorem ov (w:Wk) (x:Pc) (n:ByteArray):(bS w x n).ev.length≤w.ev.length+35:=by
 unfold bS
 have h1:=E4 w x.proc n
 have h2:=sM (ic w x.proc n) x.proc n (aw x.led.entries n)
 omega
theorem uF (x:Pc):∀(l:List Tm) (w:Wk),(eC x l w).ev.length≤w.ev.length+35*l.length
 | [],w=>by simp [eC]
 | a :: l,w=>by
  have h1:=ov w x a.name
  have h2:=uF x l (bS w x a.name)
  show (eC x l (bS w x a.name)).ev.length≤_
  rw [List.length_cons]
  omega
theorem Bd (w:Wk) (i:Nat) (p:Pr) (n:ByteArray):(iM w i p n).ev=w.ev:=by
 unfold iM
 cases decide (aq (bf w.c.queues n).holds p=aw (w.pc i).led.entries n) <;> rfl
theorem E5 (w:Wk) (i:Nat) (p:Pr) (n:ByteArray):(iM w i p n).c.procs.length=w.c.procs.length:=by
 unfold iM
 cases decide (aq (bf w.c.queues n).holds p=aw (w.pc i).led.entries n)
 ·exact gv _ _ _
 ·rfl
theorem sN (x:Pc) (i:Nat):∀(l:List Tm) (bs:List Bool) (w:Wk),(dd x i l bs w).ev.length≤w.ev.length+35*l.length∧(dd x i l bs w).c.procs.length=w.c.procs.length
 | [],bs,w=>by cases bs <;> exact ⟨by simp [dd],rfl⟩
 | a :: l,[],w=>⟨by simp [dd],rfl⟩
 | a :: l,b :: bs,w=>by
  have h2:=sN x i l bs (bif b then iM w i x.proc a.name else bS w x a.name)
  have h3:(bif b then iM w i x.proc a.name else bS w x a.name).ev.length≤w.ev.length+35∧(bif b then iM w i x.proc a.name else bS w x a.name).c.procs.length=w.c.procs.length:=by
   cases b with
   | true=>exact ⟨by rw [cond_true,Bd];omega,E5 _ _ _ _⟩
   | false=>exact ⟨ov w x a.name,congrArg List.length (qw w x a.name)⟩
  show (dd x i l bs (bif b then iM w i x.proc a.name else bS w x a.name)).ev.length≤_∧(dd x i l bs (bif b then iM w i x.proc a.name else bS w x a.name)).c.procs.length=_
  rw [List.length_cons]
  omega
theorem ow (w:Wk) (k:Int) (p:Pr):(w.note k p).ev.length=w.ev.length+1:=by unfold Wk.note;simp
theorem Be (w:Wk) (i:Nat):(jW w i).ev.length≤w.ev.length+281:=by
 have h1:=(sN (w.pc i) i (cP (w.pc i).req.expr) (cJ (w.pc i).req.expr (bC w.c.queues (w.pc i).proc (w.pc i).req.expr)) (w.note 2 (w.pc i).proc)).1
 rw [ow] at h1
 have h2:=dh (w.pc i).req.expr
 show (dd (w.pc i) i (cP (w.pc i).req.expr) (cJ (w.pc i).req.expr (bC w.c.queues (w.pc i).proc (w.pc i).req.expr)) (w.note 2 (w.pc i).proc)).ev.length≤_
 omega
theorem sO:∀(n:Nat) (w:Wk),(aU n w).ev.length≤w.ev.length+281*n
 | 0,w=>by simp [aU]
 | n+1,w=>by
  unfold aU
  cases eO w.c.queues 0 w.c.procs with
  | none=>dsimp only;omega
  | some i =>
   have h1:=Be w i
   have h2:=sO n (jW w i)
   dsimp only
   omega
theorem jI (w:Wk) (i:Nat):(ay w i).ev.length≤w.ev.length+280:=by
 have h1:=uF (w.pc i) (cP (w.pc i).req.expr) w
 have h2:=dh (w.pc i).req.expr
 show (eC (w.pc i) (cP (w.pc i).req.expr) w).ev.length≤_
 omega
theorem sP (p:Pr) (prio:Int):∀(l:List Tm) (w:Wk),(df p prio l w).ev.length≤w.ev.length+18*l.length
 | [],w=>by simp [df]
 | a :: l,w=>by
  have h1:=mX w.c.queues p a prio
  have h2:=sP p prio l (w.take (bQ w.c.queues p a prio).1 (bQ w.c.queues p a prio).2.1)
  rw [ou] at h2
  show (df p prio l (w.take (bQ w.c.queues p a prio).1 (bQ w.c.queues p a prio).2.1)).ev.length≤_
  rw [List.length_cons]
  omega
theorem sQ (p:Pr):∀(l:List Tm) (w:Wk),(cj p l w).ev.length≤w.ev.length+18*l.length
 | [],w=>by simp [cj]
 | a :: l,w=>by
  have h1:=sM w p a.name a.am
  have h2:=sQ p l (cI w p a.name a.am)
  show (cj p l (cI w p a.name a.am)).ev.length≤_
  rw [List.length_cons]
  omega
theorem DrT.ok {x:Pc}:∀{l:List Tm} {w:Wk},DrT x l w→w.ev.length+35*l.length≤900000→CA x l w
 | [],_,_,_=>trivial
 | a :: l,w,h,he=>by
  rw [List.length_cons] at he
  have h1:=ov w x a.name
  exact ⟨h.1,h.2.1,by omega,h.2.2.ok (by omega)⟩
theorem FinT.ok {x:Pc} {i:Nat}:∀{l:List Tm} {bs:List Bool} {w:Wk},FinT x i l bs w→w.ev.length+35*l.length≤900000→Ba x i l bs w
 | [],bs,_,_,_=>by cases bs <;> trivial
 | a :: l,[],_,_,_=>trivial
 | a :: l,b :: bs,w,h,he=>by
  rw [List.length_cons] at he
  have h3:(bif b then iM w i x.proc a.name else bS w x a.name).ev.length≤w.ev.length+35:=by
   cases b with
   | true=>rw [cond_true,Bd];omega
   | false=>exact ov w x a.name
  exact ⟨h.1,h.2.1,by omega,h.2.2.1,h.2.2.2.ok (by omega)⟩
theorem LwT.ok {p:Pr}:∀{l:List Tm} {w:Wk},LwT p l w→w.ev.length+18*l.length≤900000→EV p l w
 | [],_,_,_=>trivial
 | a :: l,w,h,he=>by
  rw [List.length_cons] at he
  have h1:=sM w p a.name a.am
  exact ⟨h.1,by omega,h.2.ok (by omega)⟩
theorem KZ {p:Pr} {prio:Int}:∀{l:List Tm} {w:Wk},w.ev.length+18*l.length≤900000→HD p prio l w
 | [],_,_=>trivial
 | a :: l,w,he=>by
  rw [List.length_cons] at he
  have h1:=mX w.c.queues p a prio
  exact ⟨by omega,KZ (by rw [ou];omega)⟩
theorem K0:∀(n:Nat) (w:Wk),CI w.c→cR w.c.procs≤n→w.ev.length+281*n≤800000→StOk n w
 | 0,w,h,hn,_=>by
  refine ⟨by have:=h.len;omega,?_⟩
  cases hs:eO w.c.queues 0 w.c.procs with
  | none=>rfl
  | some i =>
   obtain ⟨j,hj,_,h2⟩:=jF hs
   unfold dY at h2
   rw [Bool.and_eq_true] at h2
   have:=lV hj h2.1
   omega
 | n+1,w,h,hn,he=>by
  refine ⟨by have:=h.len;omega,by omega,fun i hs=>?_⟩
  obtain ⟨j,hj,e,h2⟩:=jF hs
  have e':i=j:=by omega
  subst e'
  have hwt:(w.pc i).waiting=true:=by
   rw [cd hj]
   unfold dY at h2
   rw [Bool.and_eq_true] at h2
   exact h2.1
  obtain ⟨k1,k2,_,_,_,_,_,_,k9⟩:=EC h hj hwt
  have h8:=dh (w.pc i).req.expr
  have hfe:=Be w i
  refine ⟨hj,?_,k9.ok (by rw [ow];omega),K0 n (jW w i) k1 (by omega) (by omega)⟩
  show i<(dd (w.pc i) i (cP (w.pc i).req.expr) (cJ (w.pc i).req.expr (bC w.c.queues (w.pc i).proc (w.pc i).req.expr)) (w.note 2 (w.pc i).proc)).c.procs.length
  rw [(sN _ _ _ _ _).2]
  exact hj
theorem uG {w:Wk} (h:CI w.c) (he:w.ev.length≤700000):StOk w.c.procs.length w:=K0 _ _ h (ol _) (by have:=h.len;omega)
theorem CD {w:Wk} (h:CI w.c):(aU w.c.procs.length w).ev.length≤w.ev.length+2248:=by
 have:=sO w.c.procs.length w
 have:=h.len
 omega
theorem Mv {c:Cs} (h:CI c):KL c.procs:=fun x hx=>by
 have hi:=h.inv x hx
 have hn:=h.now
 cases hw:x.waiting with
 | false =>
  obtain ⟨h1,h2,_⟩:=hi.run hw
  rw [h1,h2]
  simp [Rq.zero]
 | true =>
  obtain ⟨h1,_⟩:=hi.wat hw
  have h2:=h1.rq
  have h3:=h1.sn
  unfold qL at h2
  simp only [Bool.and_eq_true,decide_eq_true_eq] at h2
  omega
theorem K1 {w:Wk} {i:Nat} {n:ByteArray} (h:CI w.c) (hi:i<w.c.procs.length) (he:w.ev.length≤600000):Iy w i n:=by
 refine ⟨hi,by omega,fun hw h0=>uG (qs h hi hw h0).1 ?_⟩
 have:=fV w.c.queues (w.pc i).proc ⟨n,⟨0,0⟩⟩
 show (w.take (cn w.c.queues (w.pc i).proc ⟨n,⟨0,0⟩⟩).1 (cn w.c.queues (w.pc i).proc ⟨n,⟨0,0⟩⟩).2.1).ev.length≤_
 rw [ou]
 omega
theorem CE {g:Lg} (h:Ld g) (n:Int):(b9 g n).2.1.length≤1000:=by
 unfold b9
 rw [f5.2 h,Bool.not_true,cond_false]
 cases (!decide (n=0) && decide (aJ n 0 g.saves<0)) with
 | true=>simp
 | false =>
  rw [cond_false]
  dsimp only
  rw [List.length_map]
  have:=pm (jA (fR (g.entries.drop (bp g n).entries.length))) (m:=br g.entries) fun x hx=>by
   obtain ⟨e,he,hn⟩:=dl.1 hx
   exact dl.2 ⟨e,List.mem_of_mem_drop he,hn⟩
  have:=h.nms
  omega
theorem ox (p:Pr):∀t:List Qu,(∀q∈t,ar q=true)→(aP p t).2.length≤18*t.length
 | [],_=>by simp [aP]
 | q :: l,h=>by
  have ih:=ox p l fun x hx=>h x (by simp [hx])
  have h1:=qp (h q (by simp)) p
  have e:aP p (q :: l)=bif !dT q p then (q :: (aP p l).1,(aP p l).2) else
   ((bd q p).1 :: (aP p l).1,(bif aO (aq q.holds p) then [] else [⟨3,p,q.res.name,⟨0,0⟩⟩])++aY (bd q p).1.res.name (bd q p).2.1++(aP p l).2):=rfl
  rw [e,List.length_cons]
  cases (!dT q p) with
  | true=>rw [cond_true];dsimp only;omega
  | false =>
   rw [cond_false]
   cases aO (aq q.holds p) <;> simp [gu] <;> omega
theorem ye (t:List Qu) (p:Pr):(bN t p).2.length≤144:=by
 unfold bN
 cases hv:ez t with
 | false=>simp
 | true =>
  have:=ox p t fun q hq=>dJ hv hq
  have:=(cm hv).1
  rw [Bool.not_true,cond_false]
  omega
theorem K4 {w:Wk} {i:Nat} {n:Int} (h:CI w.c) (hi:i<w.c.procs.length) (he:w.ev.length≤600000):Iz w i n:=by
 refine ⟨hi,fun hu=>?_⟩
 obtain ⟨h1,h2,_⟩:=om h hi hu
 have h8:=dh (w.pc i).req.expr
 have hA:(pB w i).ev.length≤w.ev.length+280:=by
  unfold pB
  cases (w.pc i).waiting with
  | false=>rw [cond_false];omega
  | true=>exact jI w i
 have hB:(xX w i n).ev.length≤w.ev.length+280:=hA
 have hinv:=h.inv _ (List.getElem_mem hi)
 rw [←cd hi] at hinv
 have hl:=CE hinv.stat.led n
 have hS:(pC w i n).ev.length≤w.ev.length+280+18*(b9 (w.pc i).led n).2.1.length:=by
  have:=sQ (w.pc i).proc (b9 (w.pc i).led n).2.1 (xX w i n)
  show (cj (w.pc i).proc (b9 (w.pc i).led n).2.1 (xX w i n)).ev.length≤_
  omega
 exact ⟨fun hw=>(mT h hi hw).ok (by omega),h1.ok (by omega),uG h2 (by omega)⟩
theorem Me {w:Wk} {i:Nat} {r:Rq} (h:CI w.c) (hi:i<w.c.procs.length) (he:w.ev.length≤600000):KT w i r:=by
 have h8:=dh r.expr
 refine ⟨hi,h.tv,by have:=(cm h.tv).1;omega,fun hw hq hr=>⟨KZ ?_,uG (qr h hi hw hq hr).1 ?_⟩⟩
 ·show w.ev.length+_≤_
  omega
 ·have:=sP (w.pc i).proc r.prio (cP r.expr) (Jw w i r)
  have e:(Jw w i r).ev=w.ev:=rfl
  rw [e] at this
  show (df (w.pc i).proc r.prio (cP r.expr) (Jw w i r)).ev.length≤_
  omega
theorem Mf {w:Wk} {i:Nat} (h:CI w.c) (hi:i<w.c.procs.length) (he:w.ev.length≤600000):KU w i:=by
 have hr:(bN w.c.queues (w.pc i).proc).2.length≤1000:=by have:=ye w.c.queues (w.pc i).proc;omega
 refine ⟨hi,by have:=h.len;omega,by omega,hr,uG (xZ h hi) ?_⟩
 unfold Iu
 rw [ow]
 simp only [List.length_append]
 omega
theorem K5:∀(n:Nat) (w:Wk),CI w.c→(∀x∈w.c.procs,dY w.c.queues x=false)→cR w.c.procs≤n→w.ev.length+3000*n≤600000→TkOk n w
 | 0,w,h,hs,hn,he=>by
  refine ⟨by have:=h.len;omega,Mv h,?_⟩
  by_cases h0:eY w<0
  ·exact h0
  ·exfalso
   obtain ⟨hi,hl,_⟩:=(pG w).2 (by omega)
   have:=lV hi hl
   omega
 | n+1,w,h,hs,hn,he=>by
  refine ⟨by have:=h.len;omega,Mv h,fun h0=>?_⟩
  obtain ⟨hi,hl1,hl2,hl3⟩:=(pG w).2 h0
  have hts:IA w=be (ay (w.note 4 (w.pc (eY w).toNat).proc) (eY w).toNat) (eY w).toNat:=rfl
  rw [hts]
  clear hts
  generalize (eY w).toNat=i at *
  have hc0:CI (w.note 4 (w.pc i).proc).c:=h
  have hp0:(w.note 4 (w.pc i).proc).pc i=w.pc i:=rfl
  have hw0:((w.note 4 (w.pc i).proc).pc i).waiting=true:=by rw [hp0,cd hi];exact hl1
  obtain ⟨k1,k2,k3,k4,_⟩:=gt hc0 hi hw0
  have hdt:=mT hc0 hi hw0
  have hev:=jI (w.note 4 (w.pc i).proc) i
  rw [ow] at hev
  have hi2:i<(ay (w.note 4 (w.pc i).proc) i).c.procs.length:=by rw [k3.len];exact hi
  have hrun:((ay (w.note 4 (w.pc i).proc) i).pc i).waiting=false:=by rw [cd hi2];simp [k4]
  obtain ⟨n1,n2,n3⟩:=lY k1 hi2 hrun
  obtain ⟨q1,q2,q3,q4,q5,q6,_⟩:=lW n1
  have k2':cR (ay (w.note 4 (w.pc i).proc) i).c.procs+1=cR w.c.procs:=k2
  have he2:(be (ay (w.note 4 (w.pc i).proc) i) i).ev.length≤w.ev.length+281:=by
   show (ay (w.note 4 (w.pc i).proc) i).ev.length≤_
   omega
  have he3:=CD n1
  have h8:=dh (w.pc i).req.expr
  refine ⟨by omega,hi,?_,uG n1 (by omega),K5 n _ q1 q2 ?_ ?_⟩
  ·rw [←hp0]
   exact hdt.ok (by rw [ow,hp0];omega)
  ·show cR (bX (be (ay (w.note 4 (w.pc i).proc) i) i)).c.procs≤n
   omega
  ·show (aU _ (be (ay (w.note 4 (w.pc i).proc) i) i)).ev.length+_≤_
   omega
theorem Mg {c:Cs} (h:CI c) (p:Pr):KX p c.procs:=fun i j hi hj hij hk=>by
 by_cases e:i=j
 ·subst e;exact hk
 ·have ha:=List.pairwise_iff_getElem.1 h.asc i j (by simpa using hi) (by simpa using hj) (by omega)
  simp only [List.getElem_map] at ha
  rcases dU c.procs[i].proc p with ⟨_,k1⟩|⟨_,k1⟩|⟨k0,_⟩
  ·omega
  ·omega
  ·rcases dU c.procs[j].proc p with ⟨k2,_⟩|⟨k2,_⟩|⟨_,k3⟩
   ·exact absurd (cz (cz k0 ha) k2) (bE _)
   ·exact absurd (k2▸cz k0 ha) (bE _)
   ·omega
def Cm.d (d:Nat) (k:Cm):List D:=[.sc (.int .i64 k.kind),.sc (.int .i64 k.proc.site),.sc (.int .i64 k.proc.inc),.sc (.int .i64 k.proc.num),.sc (.int .i64 k.req.expr.k),.sc (.string k.req.expr.atom.name),.sc (.int .i64 k.req.expr.atom.am.mode),.sc (.int .i64 k.req.expr.atom.am.units),.sl (qP d) k.req.expr.kids,.sc (.int .i64 k.req.prio),.sc (.int .i64 k.req.limit),.sc (.string k.name),.sc (.int .i64 k.n)]
def Cm.a (d:Nat) (k:Cm):V0:=.ag (k.d d)
theorem Mh (d:Nat) (w:Wk) (k:Cm) (h:CI w.c) (hs:∀x∈w.c.procs,dY w.c.queues x=false) (he:w.ev.length≤1000) {Z:Wk×Int} (hZ:DY w k=Z):FSpec prog 100 [jR,k.a d] (HI d w) [3,4] (.i Z.2) (HO d Z.1):=by
 refine aX func100 ?_
 obtain ⟨kd,p,r,nm,n⟩:=k
 unfold DY at hZ
 dsimp only at hZ
 have h8:w.c.procs.length≤100000:=by have:=h.len;omega
 by_cases hA:1≤kd∧kd≤9
 case neg =>
  rw [show (decide (1≤kd) && decide (kd≤9))=false by rw [Bool.and_eq_false_iff];simp;omega] at hZ
  obtain rfl:Z=(w,1):=hZ.symm
  by_cases hA1:1≤kd
  ·repeat' (first
    | refine ah ?_ ?_
    | refine af ?_
    | exact ai|refine ae fun hb=>?_
    | (refine aE (qf [(3,1),(4,2)]) ?_;exact ab))
  ·repeat' (first
    | refine ah ?_ ?_
    | refine af ?_
    | exact ai|refine ae fun hb=>?_
    | (refine aE (qf [(3,1),(4,2)]) ?_;exact ab))
 obtain ⟨hA1,hA2⟩:=hA
 rw [decide_eq_true hA1,decide_eq_true hA2,Bool.and_self,Bool.not_true,cond_false] at hZ
 by_cases h1:kd=1
 ·subst h1
  have hZ:mu w p n=Z:=hZ
  have kO:=KY d w p n h8 (Mg h p) hZ
  repeat' (first
   | refine ah ?_ ?_
   | refine aa 9 rfl (cH (qf [(1,1),(2,2),(3,1003),(4,1004)]) (kO) ?_)
   | refine af ?_
   | exact ai|refine ae fun hb=>?_
   | (refine aE (qf [(3,1003),(4,1004)]) ?_;exact ab))
 rw [decide_eq_false h1,cond_false] at hZ
 by_cases h9:kd=9
 ·subst h9
  have hZ:jQ w n=Z:=hZ
  have kT:=KP d w n (by have:=h.now;omega) (fun a1 a2 a3=>K5 _ _ (h.later a1 (by omega)) hs (ol _) (by show w.ev.length+_≤_;have:=h.len;omega)) hZ
  repeat' (first
   | refine ah ?_ ?_
   | refine aa 9 rfl (cH (qf [(1,1),(2,2),(3,1003),(4,1004)]) (kT) ?_)
   | refine af ?_
   | exact ai|refine ae fun hb=>?_
   | (refine aE (qf [(3,1003),(4,1004)]) ?_;exact ab))
 rw [decide_eq_false h9,cond_false] at hZ
 by_cases hI:fo p 0 w.c.procs<0
 ·rw [decide_eq_true hI,cond_true] at hZ
  obtain rfl:Z=(w,10):=hZ.symm
  have kI:=yd w.c.procs d p
  repeat' (first
   | refine ah ?_ ?_
   | refine aa 9 rfl (cB [1] (kI) ?_)
   | refine af ?_
   | exact ai|refine ae fun hb=>?_
   | (refine aE (qf [(3,1),(4,2)]) ?_;exact ab))
 rw [decide_eq_false hI,cond_false] at hZ
 obtain ⟨i,hi,ei,_⟩:=lZ (p:=p) (l:=w.c.procs) (k:=0) (by omega)
 rw [Nat.zero_add] at ei
 have kI:=wn w.c.procs d p ei
 rw [ei,Int.toNat_natCast] at hZ
 clear hI ei
 obtain ⟨x,hx⟩:∃x,w.c.procs[i]? = some x:=⟨_,List.getElem?_eq_getElem hi⟩
 have hpc:=jS hx
 by_cases h2:kd=2
 ·subst h2
  have hZ:cL w i r=Z:=hZ
  have kT:=EZ d w i r (Me h hi (by omega)) hZ
  repeat' (first
   | refine ah ?_ ?_
   | (refine aa 9 rfl ?_;first
    | (refine cB [1] (kI) ?_)
    | (refine cH (qf [(1,1),(2,2),(3,1003),(4,1004)]) (kT) ?_))
   | refine af ?_
   | exact ai|refine ae fun hb=>?_
   | (refine aE (qf [(3,1003),(4,1004)]) ?_;exact ab))
 rw [decide_eq_false h2,cond_false] at hZ
 by_cases h3:kd=3
 ·subst h3
  rw [hpc] at hZ
  cases hw:x.waiting with
  | false =>
   rw [hw] at hZ
   obtain rfl:Z=(w,14):=hZ.symm
   repeat' (first
    | refine ah ?_ ?_
    | refine aa 9 rfl (cB [1] (kI) ?_)
    | refine af ?_
    | exact ai|(refine ae fun hb=>?_;first|(cases hw.symm.trans hb;done)|skip)
    | (refine aE (qf [(3,1),(4,2)]) ?_;exact ab))
  | true =>
   rw [hw] at hZ
   have hw2:(w.pc i).waiting=true:=by rw [hpc];exact hw
   obtain ⟨k1,k2,k3,k4,_⟩:=gt h hi hw2
   have hi2:i<(ay w i).c.procs.length:=by rw [k3.len];exact hi
   obtain ⟨n1,n2,_⟩:=lY k1 hi2 (by rw [cd hi2];simp [k4])
   have h9:=jI w i
   have h88:=dh (w.pc i).req.expr
   have kW:=pJ d w i hi ((mT h hi hw2).ok (by omega)) (by rw [di];exact hi)
   have kX:=mR d (ay w i) i hi2
   have kS:=ma d _ _ (uG n1 (by show (ay w i).ev.length≤_;omega))
   have hZ:(aU (be (ay w i) i).c.procs.length (be (ay w i) i),(0:Int))=Z:=hZ
   obtain ⟨A,hA⟩:∃A,ay w i=A:=⟨_,rfl⟩
   rw [hA] at kW kX kS hZ
   obtain ⟨B,hB⟩:∃B,be A i=B:=⟨_,rfl⟩
   rw [hB] at kX kS hZ
   obtain ⟨F,hF⟩:∃F,aU B.c.procs.length B=F:=⟨_,rfl⟩
   rw [hF] at kS hZ
   obtain rfl:Z=(F,0):=hZ.symm
   repeat' (first
    | refine ah ?_ ?_
    | (refine aa 9 rfl ?_;first
     | (refine cB [1] (kI) ?_)
     | (refine cH (qf [(1,1),(2,2),(3,1003),(4,1004)]) (kW) ?_)
     | (refine cH (qf [(1,1003),(2,1004),(3,1005),(4,1006)]) (kX) ?_)
     | (refine cH (qf [(1,1005),(2,1006),(3,1007),(4,1008)]) (kS) ?_))
    | refine af ?_
    | exact ai|(refine ae fun hb=>?_;first|(cases hw.symm.trans hb;done)|skip)
    | (refine aE (qf [(3,1007),(4,1008)]) ?_;exact ab))
 rw [decide_eq_false h3,cond_false] at hZ
 by_cases h4:kd=4
 ·subst h4
  have hZ:dZ w i nm=Z:=hZ
  have kT:=EU d w i nm (K1 h hi (by omega)) hZ
  repeat' (first
   | refine ah ?_ ?_
   | (refine aa 9 rfl ?_;first
    | (refine cB [1] (kI) ?_)
    | (refine cH (qf [(1,1),(2,2),(3,1003),(4,1004)]) (kT) ?_))
   | refine af ?_
   | exact ai|refine ae fun hb=>?_
   | (refine aE (qf [(3,1003),(4,1004)]) ?_;exact ab))
 rw [decide_eq_false h4,cond_false] at hZ
 by_cases h5:kd=5
 ·subst h5
  rw [hpc] at hZ
  obtain ⟨G,hG⟩:∃G,iD x.led n=G:=⟨_,rfl⟩
  have kL:=KE x.led n hG
  have kX:=mR d (w.setP i { x with led:=G.1 }) i (by rw [gv];exact hi)
  obtain ⟨N,hN⟩:∃N,be (w.setP i { x with led:=G.1 }) i=N:=⟨_,rfl⟩
  have hZ:(bif x.waiting then (w,(14:Int)) else bif !decide (G.2=0) then (w,G.2) else (N,0))=Z:=by rw [←hZ,←hN,←hG];rfl
  rw [hN] at kX
  cases hw:x.waiting with
  | true =>
   rw [hw] at hZ
   obtain rfl:Z=(w,14):=hZ.symm
   repeat' (first
    | refine ah ?_ ?_
    | refine aa 9 rfl (cB [1] (kI) ?_)
    | refine af ?_
    | exact ai|(refine ae fun hb=>?_;first|(cases hw.symm.trans hb;done)|skip)
    | (refine aE (qf [(3,1),(4,2)]) ?_;exact ab))
  | false =>
   rw [hw,cond_false] at hZ
   by_cases h0:G.2=0
   case neg =>
    obtain rfl:Z=(w,G.2):=by rw [←hZ,decide_eq_false h0];rfl
    repeat' (first
     | refine ah ?_ ?_
     | (refine aa 9 rfl ?_;first
      | (refine cB [1] (kI) ?_)
      | (refine cC [] (kL) ?_))
     | refine af ?_
     | exact ai|(refine ae fun hb=>?_;first|(cases hw.symm.trans hb;done)|skip)
     | (refine aE (qf [(3,1),(4,2)]) ?_;exact ab))
   obtain rfl:Z=(N,0):=by rw [←hZ,decide_eq_true h0];rfl
   repeat' (first
    | refine ah ?_ ?_
    | (refine aa 9 rfl ?_;first
     | (refine cB [1] (kI) ?_)
     | (refine cC [] (kL) ?_)
     | (refine cH (qf [(1,1),(2,2),(3,1003),(4,1004)]) (kX) ?_))
    | refine af ?_
    | (refine aa 4 rfl ?_;refine bP (aI (z:={ x with led:=G.1 }) rfl rfl rfl rfl hx rfl rfl rfl rfl (Nat.le_of_ble_eq_true rfl) rfl rfl) rfl rfl rfl ?_)
    | exact ai|(refine ae fun hb=>?_;first|(cases hw.symm.trans hb;done)|skip)
    | (refine aE (qf [(3,1003),(4,1004)]) ?_;exact ab))
 rw [decide_eq_false h5,cond_false] at hZ
 by_cases h6:kd=6
 ·subst h6
  have hZ:cZ w i n=Z:=hZ
  have kT:=CC d w i n (K4 h hi (by omega)) hZ
  repeat' (first
   | refine ah ?_ ?_
   | (refine aa 9 rfl ?_;first
    | (refine cB [1] (kI) ?_)
    | (refine cH (qf [(1,1),(2,2),(3,1003),(4,1004)]) (kT) ?_))
   | refine af ?_
   | exact ai|refine ae fun hb=>?_
   | (refine aE (qf [(3,1003),(4,1004)]) ?_;exact ab))
 rw [decide_eq_false h6,cond_false] at hZ
 have kG:=KV d w i (Mf h hi (by omega))
 by_cases h8b:kd=8
 ·subst h8b
  rw [hpc] at hZ
  cases hw:x.waiting with
  | true =>
   rw [hw] at hZ
   obtain rfl:Z=(w,14):=hZ.symm
   repeat' (first
    | refine ah ?_ ?_
    | refine aa 9 rfl (cB [1] (kI) ?_)
    | refine af ?_
    | exact ai|(refine ae fun hb=>?_;first|(cases hw.symm.trans hb;done)|skip)
    | (refine aE (qf [(3,1),(4,2)]) ?_;exact ab))
  | false =>
   rw [hw] at hZ
   obtain ⟨F,hF⟩:∃F,iE w i=F:=⟨_,rfl⟩
   rw [hF] at kG hZ
   obtain rfl:Z=(F,0):=hZ.symm
   repeat' (first
    | refine ah ?_ ?_
    | (refine aa 9 rfl ?_;first
     | (refine cB [1] (kI) ?_)
     | (refine cH (qf [(1,1),(2,2),(3,1003),(4,1004)]) (kG) ?_))
    | refine af ?_
    | exact ai|(refine ae fun hb=>?_;first|(cases hw.symm.trans hb;done)|skip)
    | (refine aE (qf [(3,1003),(4,1004)]) ?_;exact ab))
 ·rw [decide_eq_false h8b] at hZ
  obtain rfl:kd=7:=by omega
  obtain ⟨F,hF⟩:∃F,iE w i=F:=⟨_,rfl⟩
  rw [hF] at kG hZ
  obtain rfl:Z=(F,0):=hZ.symm
  repeat' (first
   | refine ah ?_ ?_
   | (refine aa 9 rfl ?_;first
    | (refine cB [1] (kI) ?_)
    | (refine cH (qf [(1,1),(2,2),(3,1003),(4,1004)]) (kG) ?_))
   | refine af ?_
   | exact ai|refine ae fun hb=>?_
   | (refine aE (qf [(3,1003),(4,1004)]) ?_;exact ab))
end Go.Proofs.YtdaajdflefnjfaaGreat
