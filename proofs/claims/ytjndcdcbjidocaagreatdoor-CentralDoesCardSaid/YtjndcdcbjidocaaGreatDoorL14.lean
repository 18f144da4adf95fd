/- Part 14 of 33 of the proof of centralDoes_holds (no condition). -/
import Derived.Test.YtjndcdcbjidocaaGreatDoorL13
set_option linter.unusedVariables false
set_option linter.unusedSimpArgs false
set_option maxRecDepth 100000
set_option maxHeartbeats 64000000
namespace Go.Proofs.YtjndcdcbjidocaaGreatDoor
open Go.RowKit Go.Proofs.Tryz
structure CatOk (l:List Rs):Prop where
 len:l.length≤8
 ok:∀x∈l,mm x=true
 asc:∀i (h:i+1<l.length),jo (l[i]'(by omega)).name l[i+1].name=true
theorem DP {t:List Qu} (h:du t=true):CatOk (b8 t):=by
 have hp:=bf h;refine ⟨by simp [b8];exact hp.1,fun x hx=>?_,fun i hi=>?_⟩
 ·obtain ⟨q,hq,rfl⟩:=List.mem_map.1 hx;exact (aJ (ct h hq)).res
 ·have:=(lj hp.2.1).1;have hi':i+1<t.length:=by simpa [b8] using hi
  have h2:=(List.pairwise_iff_getElem.1 this) i (i+1) (by simp [fk];omega) (by simp [fk];omega) (by omega);simpa [fk,b8] using h2
theorem JY {a b:ByteArray} (h:jo a b=true):(!Op.bytesLess a.toList b.toList)=false:=by
 unfold jo at h;rw [h];rfl
theorem oP (l:List Rs) (hc:CatOk l):FSpec prog 39 [.one (.sl eT l)] [] [] (.b true) []:=by
 refine aP func39 ?_;have h8:=hc.len;repeat' (first|refine af ?_ ?_|refine ae ?_|exact ah|refine ab fun hb=>?_)
 refine ai (fun i=>i≤l.length) (fun i=>bt [] [(0,.c (.sl eT l)),(3,.i i)] []) (fun i=>l.length-i) 0 (Nat.zero_le _) aN ?_;intro i hi;by_cases hlt:i<l.length
 ·have hv:=hc.ok _ (List.getElem_mem hlt);rcases Nat.eq_zero_or_pos i with h0|h0
  ·subst h0;repeat' (first|refine af ?_ ?_|refine aa 9 rfl (cB [] (xc (l[0]'(by omega))) ?_)|refine ae ?_|exact ah|refine ab fun hb=>?_)
   refine ⟨0+1,by omega,by omega,?_⟩;exact aN
  ·obtain ⟨y,hy⟩:∃y,l[((i:Int)-1).toNat]? = some y:=⟨_,List.getElem?_eq_getElem (by omega)⟩;have hlt2:(!Op.bytesLess y.name.toList l[i].name.toList)=false:=by
    refine JY ?_;have:=hc.asc (i-1) (by omega);rw [show ((i:Int)-1).toNat=i-1 by omega,List.getElem?_eq_getElem (by omega)] at hy;rw [Option.some.inj hy] at this;simpa [show i-1+1=i by omega] using this
   repeat' (first|refine af ?_ ?_|refine aa 9 rfl (cB [] (xc l[i]) ?_)|refine ae ?_|exact ah|(refine ab fun hb=>?_;first|(exact Bool.noConfusion ((congrArg (!·) hb).symm.trans hlt2))|skip))
   refine ⟨i+1,by omega,by omega,?_⟩;exact aN
 ·skip
  repeat' (first|refine af ?_ ?_|refine ae ?_|exact ah|refine ab fun hb=>?_|exact aX|fail)
def mB (n:ByteArray) (t:List Qu):Rs:=bif aW t n then (be t n).res else ⟨⟨#[]⟩,0,0,0⟩
theorem rF {n:ByteArray}:∀{t:List Qu} {k:Nat},bk n k t = -1∨∃i,∃h:i<t.length,bk n k t=((k+i:Nat):Int)∧t[i].res.name.toList == n.toList∧∀j (hj:j<i),(t[j].res.name.toList == n.toList)=false
 | [],_=>.inl rfl
 | q :: l,k=>by
  unfold bk;cases hq:q.res.name.toList == n.toList with
  | true=>exact .inr ⟨0,by simp,by simp,by simpa using hq,fun j hj=>absurd hj (Nat.not_lt_zero _)⟩
  | false =>
   rcases rF (n:=n) (t:=l) (k:=k+1) with h|⟨i,hi,h1,h2,h3⟩
   ·exact .inl (by simpa using h)
   ·refine .inr ⟨i+1,by simpa using hi,by rw [cond_false,h1];congr 1;omega,by simpa using h2,fun j hj=>?_⟩;cases j with
    | zero=>simpa using hq
    | succ j=>simpa using h3 j (by omega)
theorem tX {n:ByteArray}:∀{t:List Qu} {k:Nat},bk n k t<0→∀j (hj:j<t.length),(t[j].res.name.toList == n.toList)=false
 | [],_,_,j,hj=>by simp at hj
 | q :: l,k,h,j,hj=>by
  unfold bk at h;cases hq:q.res.name.toList == n.toList with
  | true=>rw [hq,cond_true] at h;omega
  | false =>
   rw [hq,cond_false] at h;cases j with
   | zero=>simpa using hq
   | succ j=>simpa using tX h j (by simpa using hj)
theorem DQ (t:List Qu) (n:ByteArray):FSpec prog 212 [.one (.sl eT (b8 t)),.one (.sc (.string n))] [] [] (.tup [(mB n t).a,.one (.sc (.bool (aW t n)))]) []:=by
 refine aP func212 ?_;obtain ⟨L,hL⟩:∃L,b8 t=L:=⟨_,rfl⟩;rw [hL];have hLl:L.length=t.length:=by rw [←hL];simp [b8]
 have hLg:∀i (h:i<L.length),L[i]=(t[i]'(by omega)).res:=by intro i h;simp [←hL,b8]
 refine aM (fun c ρ a w hr=>bz (t:=0) hr rfl) (fun hl0=>?_);by_cases hf:bk n 0 t<0
 ·have hall:=tX hf;have hh:aW t n=false:=by simp [aW];omega
  rw [show mB n t=⟨⟨#[]⟩,0,0,0⟩ by simp [mB,hh],hh];repeat' (first|refine af ?_ ?_|refine ae ?_|exact ah|refine ab fun hb=>?_)
  refine ai (fun i=>i≤L.length) (fun i=>bt [4] [(0,.c (.sl eT L)),(1,.c (.sc (.string n))),(4,.c (.ptr 4 0)),(6,.i i)] [(4,.box 55 [.sc (.string ⟨#[]⟩),.sc (.int .i64 0),.sc (.int .i64 0),.sc (.int .i64 0)])]) (fun i=>L.length-i) 0 (Nat.zero_le _) aN ?_;intro i hi;by_cases hlt:i<L.length
  ·have h1:=hall i (by omega);rw [←congrArg Rs.name (hLg i hlt)] at h1;repeat' (first|refine af ?_ ?_|refine ae ?_|exact ah|(refine ab fun hb=>?_;first|(exact Bool.noConfusion (((beq_iff_eq.2 hb).symm.trans h1):true=false))|(exact hb.elim)|skip))
   refine ⟨i+1,by omega,by omega,?_⟩;exact aN
  ·skip
   repeat' (first|refine af ?_ ?_|refine ae ?_|exact ah|refine ab fun hb=>?_|(refine fe (qf []) ?_;exact aj))
 ·rcases rF (n:=n) (t:=t) (k:=0) with h|⟨k,hk,hF,h2,h3⟩
  ·omega
  have hh:aW t n=true:=by simp [aW];omega
  have hq:be t n=t[k]:=by
   obtain ⟨j,hj,hF2,hq,_⟩:=d8 hf;have:j=k:=by rw [hF] at hF2;omega
   subst this;exact hq
  rw [show mB n t=t[k].res by simp [mB,hh,hq],hh];repeat' (first|refine af ?_ ?_|refine ae ?_|exact ah|refine ab fun hb=>?_)
  refine ai (fun i=>i≤k) (fun i=>bt [4] [(0,.c (.sl eT L)),(1,.c (.sc (.string n))),(4,.c (.ptr 4 0)),(6,.i i)] [(4,.box 55 [.sc (.string ⟨#[]⟩),.sc (.int .i64 0),.sc (.int .i64 0),.sc (.int .i64 0)])]) (fun i=>L.length-i) 0 (Nat.zero_le _) aN ?_;intro i hi;have hlt:i<L.length:=by omega
  by_cases hik:i=k
  ·subst hik;have h1:=h2;rw [←hLg i hlt] at h1 ⊢;rw [beq_iff_eq] at h1;repeat' (first|refine af ?_ ?_|refine ae ?_|exact ah|refine ab fun hb=>?_|(refine fe (qf []) ?_;exact aj))
  ·have h1:=h3 i (by omega);rw [←congrArg Rs.name (hLg i hlt)] at h1;repeat' (first|refine af ?_ ?_|refine ae ?_|exact ah|(refine ab fun hb=>?_;first|(exact Bool.noConfusion (((beq_iff_eq.2 hb).symm.trans h1):true=false))|skip))
   refine ⟨i+1,by omega,by omega,?_⟩;exact aN
def pV (t:List Qu) (a:Tm):Int:=bif !aW t a.name then 10 else bif !aF (be t a.name).res a.am then 12 else 0
theorem oQ (t:List Qu) (n:ByteArray) {b:Bool} {r:Rs} (h:aW t n=b) (h2:mB n t=r):FSpec prog 212 [.one (.sl eT (b8 t)),.one (.sc (.string n))] [] [] (.tup [r.a,.one (.sc (.bool b))]) []:=h▸h2▸DQ t n
theorem JZ (t:List Qu) (a:Tm) (hV:du t=true):FSpec prog 145 [.one (.sl eT (b8 t)),a.a] [] [] (.i (pV t a)) []:=by
 refine aP func145 ?_;have hc:=DP hV;cases hh:aW t a.name with
 | false =>
  have hr:mB a.name t=⟨⟨#[]⟩,0,0,0⟩:=by simp [mB,hh]
  rw [show pV t a=10 by simp [pV,hh]];repeat' (first|refine af ?_ ?_|(refine aa 9 rfl ?_;first|(refine cB [] (oP (b8 t) hc) ?_)|(refine cB [] (oQ t a.name hh hr) ?_))|refine ae ?_|exact ah|refine ab fun hb=>?_|exact aX|fail)
 | true =>
  have hr:mB a.name t=(be t a.name).res:=by simp [mB,hh]
  cases hf:aF (be t a.name).res a.am with
  | false =>
   rw [show pV t a=12 by simp [pV,hh,hf]];repeat' (first|refine af ?_ ?_|(refine aa 9 rfl ?_;first|(refine cB [] (oP (b8 t) hc) ?_)|(refine cB [] (oQ t a.name hh hr) ?_)|(refine cB [] (im (be t a.name).res a.am) ?_))|refine ae ?_|exact ah|refine ab fun hb=>?_|exact aX|fail)
  | true =>
   rw [show pV t a=0 by simp [pV,hh,hf]];repeat' (first|refine af ?_ ?_|(refine aa 9 rfl ?_;first|(refine cB [] (oP (b8 t) hc) ?_)|(refine cB [] (oQ t a.name hh hr) ?_)|(refine cB [] (im (be t a.name).res a.am) ?_))|refine ae ?_|exact ah|refine ab fun hb=>?_|exact aX|fail)
theorem yV (t:List Qu) (a:Tm) (l:List Tm):fc t (a :: l)=bif !decide (pV t a=0) then pV t a else fc t l:=by
 rw [show fc t (a :: l)=bif !aW t a.name then 10 else bif !aF (be t a.name).res a.am then 12 else fc t l from rfl];unfold pV;cases aW t a.name <;> cases aF (be t a.name).res a.am <;> rfl
theorem DS (t:List Qu) (a:Tm) (hV:du t=true) {e:Int} (h:pV t a=e):FSpec prog 145 [.one (.sl eT (b8 t)),a.a] [] [] (.i e) []:=h▸JZ t a hV
theorem J0 (d:Nat) (t:List Qu) (x:Ex) (hV:du t=true):FSpec prog 71 [.one (.sl eT (b8 t)),x.a d] [] [] (.i (gw t x)) []:=by
 refine aP func71 ?_;have h8:=cd x;obtain ⟨L,hL⟩:∃L,cy x=L:=⟨_,rfl⟩;rw [hL] at h8;cases hv:kv x with
 | false =>
  rw [show gw t x=1 by simp [gw,hv]];repeat' (first|refine af ?_ ?_|refine aa 9 rfl (cC [] (lp d x hv hL) ?_)|refine ae ?_|exact ah|refine ab fun hb=>?_|exact aX|fail)
 | true =>
  rw [show gw t x=fc t L by simp [gw,hv,hL]];repeat' (first|refine af ?_ ?_|refine aa 9 rfl (cC [] (lp d x hv hL) ?_)|refine ae ?_|exact ah|refine ab fun hb=>?_)
  refine ai (fun i=>i≤L.length∧fc t (L.drop i)=fc t L) (fun i=>bt [] [(0,.c (.sl eT (b8 t))),(5,.c (.sl cw L)),(7,.i i)] []) (fun i=>L.length-i) 0 ⟨Nat.zero_le _,rfl⟩ aN ?_;rintro i ⟨hi,hs⟩;by_cases hlt:i<L.length
  ·rw [List.drop_eq_getElem_cons hlt,yV] at hs;obtain ⟨e,he⟩:∃e,pV t L[i]=e:=⟨_,rfl⟩;rw [he] at hs;by_cases h0:e=0
   ·subst h0;repeat' (first|refine af ?_ ?_|refine aa 9 rfl (cB [] (DS t L[i] hV he) ?_)|refine ae ?_|exact ah|(refine ab fun hb=>?_;first|(exact (hb rfl).elim)|skip))
    refine ⟨i+1,⟨by omega,by rw [←hs];rfl⟩,by omega,?_⟩;exact aN
   ·rw [←hs,decide_eq_false h0,Bool.not_false,cond_true];repeat' (first|refine af ?_ ?_|refine aa 9 rfl (cB [] (DS t L[i] hV he) ?_)|refine ae ?_|exact ah|refine ab fun hb=>?_|exact aX|fail)
  ·rw [←hs,List.drop_eq_nil_of_le (by omega),show fc t []=0 from rfl];repeat' (first|refine af ?_ ?_|refine ae ?_|exact ah|refine ab fun hb=>?_|exact aX|fail)
theorem jO (t:List Qu) (p:Pr) (a:Tm) (prio:Int):(bd t p a prio).2.1.length≤18:=by
 unfold bd;cases hV:du t with
 | false=>simp [dO]
 | true =>
  by_cases hf:bk a.name 0 t<0
  ·simp [hf,dO]
  ·obtain ⟨i,hi,hF,hq,hx⟩:=d8 hf;have:=mV (ct hV (List.getElem_mem hi)) p a.am prio;rw [hq];generalize (decide ((aC t).length=8) && !decide (p∈aC t))=b;cases b <;> cases decide ((bv t[i] p a.am prio).2.2=0) <;> simp [hf,dO,gB] <;> omega
def Gf (p:Pr) (prio:Int):List Tm→Wk→Prop
 | [],_=>True
 | a :: l,w=>w.ev.length≤900000∧Gf p prio l (w.take (bd w.c.queues p a prio).1 (bd w.c.queues p a prio).2.1)
def J1 (w:Wk) (i:Nat) (r:Rq):Prop:=i<w.c.procs.length∧du w.c.queues=true∧w.c.queues.length≤100000∧((w.pc i).waiting=false→oG r=true→gw w.c.queues r.expr=0→Gf (w.pc i).proc r.prio (cy r.expr) (Gc w i r)∧StOk (z6 w i r).c.procs.length (z6 w i r))
theorem rG (w:Wk) (i:Nat) (r:Rq):cG w i r=bif (w.pc i).waiting then (w,14) else bif !oG r then (w,1) else bif !decide (gw w.c.queues r.expr=0) then (w,gw w.c.queues r.expr) else (aQ (z6 w i r).c.procs.length (z6 w i r),0):=rfl
theorem DT (d:Nat) (w:Wk) (i:Nat) (r:Rq) (hok:J1 w i r) {Z:Wk×Int} (hZ:cG w i r=Z):FSpec prog 89 [gA,oK i,r.a d] (HI d w) [3,4] (.i Z.2) (HO d Z.1):=by
 refine aP func89 ?_;obtain ⟨hi,hV,hq8,hst⟩:=hok;obtain ⟨x,hx⟩:∃x,w.c.procs[i]? = some x:=⟨_,List.getElem?_eq_getElem hi⟩;have hpc:=dJ hx;rw [rG] at hZ;unfold z6 at hZ hst;unfold Gc at hZ hst;rw [hpc] at hZ hst;have kV:=xh d r;cases hw:x.waiting with
 | true =>
  obtain rfl:Z=(w,14):=by rw [←hZ,hw];rfl
  repeat' (first|refine af ?_ ?_|refine ae ?_|exact ah|(refine ab fun hb=>?_;first|(cases hw.symm.trans hb;done)|skip)|(refine bP (qf [(3,1),(4,2)]) ?_;exact aj))
 | false =>
  rw [hw,cond_false] at hZ;cases hr:oG r with
  | false =>
   obtain rfl:Z=(w,1):=by rw [←hZ,hr];rfl
   rw [hr] at kV;repeat' (first|refine af ?_ ?_|refine aa 9 rfl (cB [] (kV) ?_)|refine ae ?_|exact ah|(refine ab fun hb=>?_;first|(cases hw.symm.trans hb;done)|skip)|(refine bP (qf [(3,1),(4,2)]) ?_;exact aj))
  | true =>
   rw [hr,Bool.not_true,cond_false] at hZ;rw [hr] at kV;have kC:=xl w.c.queues hq8;have kR:=J0 d w.c.queues r.expr hV;obtain ⟨e,he⟩:∃e,gw w.c.queues r.expr=e:=⟨_,rfl⟩;rw [he] at hZ hst kR;by_cases h0:e=0
   case neg =>
    obtain rfl:Z=(w,e):=by rw [←hZ,decide_eq_false h0];rfl
    repeat' (first|refine af ?_ ?_|(refine aa 9 rfl ?_;first|(refine cB [] (kV) ?_)|(refine cC [] (kC) ?_)|(refine cB [] (kR) ?_))|refine ae ?_|exact ah|(refine ab fun hb=>?_;first|(cases hw.symm.trans hb;done)|(exact absurd hb h0)|skip)|(refine bP (qf [(3,1),(4,2)]) ?_;exact aj))
   obtain ⟨hcl,hs⟩:=hst hw hr h0;rw [decide_eq_true h0,Bool.not_true,cond_false] at hZ;obtain ⟨A,hA⟩:∃A,w.setP i { x with waiting:=true,req:=r,since:=w.c.now } = A:=⟨_,rfl⟩;rw [hA] at hZ hcl hs;have hAi:i<A.c.procs.length:=by rw [←hA,gC];exact hi
   obtain ⟨z,hz,hzp⟩:∃z,(aU A i).c.procs[i]? = some z∧z.proc=x.proc:=by
    refine ⟨{ A.pc i with gen:=aS (A.pc i).gen },?_,?_⟩
    ·show (List.set _ _ _)[i]? = _;rw [List.getElem?_set_self hAi]
    ·show (A.pc i).proc=x.proc;rw [←hA];unfold Wk.pc Wk.setP;rw [List.getD_eq_getElem?_getD,List.getElem?_set_self hi];rfl
   have h8:=cd r.expr;obtain ⟨L,hL⟩:∃L,cy r.expr=L:=⟨_,rfl⟩;rw [hL] at hZ hcl hs h8;have hs1:=fB hi { x with waiting:=true };have hl1:(w.c.procs.set i { x with waiting:=true }).length=w.c.procs.length:=List.length_set;have hs2:=fB (hl1▸hi) { x with waiting:=true,req:=r };have hl2:((w.c.procs.set i { x with waiting:=true }).set i { x with waiting:=true,req:=r }).length=w.c.procs.length:=by rw [List.length_set,hl1]
   have eA:A=⟨{ w.c with procs:=((w.c.procs.set i { x with waiting:=true }).set i { x with waiting:=true,req:=r }).set i { x with waiting:=true,req:=r,since:=w.c.now } },w.ev⟩:=by
    rw [←hA];unfold Wk.setP;rw [List.set_set,List.set_set]
   have kX:=mY d A i hAi;obtain ⟨B,hB⟩:∃B,aU A i=B:=⟨_,rfl⟩;rw [hB] at hZ hcl hs hz kX;rw [eA] at kX;obtain ⟨W,hW⟩:∃W,ck x.proc r.prio L B=W:=⟨_,rfl⟩;rw [hW] at hZ hs;have kS:=mb d W _ hs;obtain ⟨F,hF⟩:∃F,aQ W.c.procs.length W=F:=⟨_,rfl⟩;rw [hF] at hZ kS;obtain rfl:Z=(F,0):=hZ.symm;rw [←hzp] at hcl hW;obtain ⟨Q,hQ⟩:∃Q,z.proc=Q:=⟨_,rfl⟩;rw [hQ] at hcl hW;repeat' (first|refine af ?_ ?_|(refine aa 9 rfl ?_;first|(refine cB [] (kV) ?_)|(refine cC [] (kC) ?_)|(refine cB [] (kR) ?_)|(refine cH (qf [(1,1),(2,2),(3,1003),(4,1004)]) (kX) ?_)|(refine cC [] (lv d r.expr hL) ?_))|refine ae ?_|(refine aa 4 rfl ?_;first|(refine aR (aq (z:={ x with waiting:=true }) rfl rfl rfl rfl hx rfl rfl rfl rfl (Nat.le_of_ble_eq_true rfl) rfl rfl) rfl rfl rfl ?_)|(refine aR (aq (z:={ x with waiting:=true,req:=r }) rfl rfl rfl rfl hs1 rfl rfl rfl rfl (Nat.le_of_ble_eq_true rfl) rfl rfl) rfl rfl rfl ?_)|(refine aR (aq (z:={ x with waiting:=true,req:=r,since:=w.c.now }) rfl rfl rfl rfl hs2 rfl rfl rfl rfl (Nat.le_of_ble_eq_true rfl) rfl rfl) rfl rfl rfl ?_))|exact ah|(refine ab fun hb=>?_;first|(cases hw.symm.trans hb;done)|(exact absurd h0 hb)|skip))
   refine ai (fun y:Nat×Wk=>y.1≤L.length∧y.2.c.procs=B.c.procs∧Gf Q r.prio (L.drop y.1) y.2∧ck Q r.prio (L.drop y.1) y.2=W) (fun y=>bt [0,1,2,5,1010,1011] [(0,.v gA),(1,.v (oK i)),(5,.c (.ptr 5 0)),(8,.c (.sl cw L)),(9,.i y.1)] [(0,.box 89 (B8 y.2 1010 1011)),(5,.box 44 (r.d d)),(1010,.arr 63 (eI d) y.2.c.procs),(1011,.arr 67 fG y.2.ev)]) (fun y=>L.length-y.1) (0,B) ⟨Nat.zero_le _,rfl,hcl,hW⟩ (by exact a8 (qf [(1010,1003),(1011,1004)])) ?_;rintro ⟨k,v⟩ ⟨hk,hp,hv,hg⟩;dsimp only at *
   by_cases hlt:k<L.length
   case neg =>
    obtain rfl:v=W:=by rw [←hg,List.drop_eq_nil_of_le (by omega)];rfl
    repeat' (first|refine af ?_ ?_|refine aa 9 rfl (cH (qf [(1,1010),(2,1011),(3,1020),(4,1021)]) (kS) ?_)|refine ae ?_|exact ah|refine ab fun hb=>?_|(refine bP (qf [(3,1020),(4,1021)]) ?_;exact aj))
   rw [List.drop_eq_getElem_cons hlt] at hv hg;obtain ⟨a,ha⟩:∃a,L[k]=a:=⟨_,rfl⟩;have hga:L[k]? = some a:=by rw [List.getElem?_eq_getElem hlt,ha]
   rw [ha] at hv hg;obtain ⟨v1,v2⟩:=hv;have hg:ck Q r.prio (L.drop (k+1)) (v.take (bd v.c.queues Q a r.prio).1 (bd v.c.queues Q a r.prio).2.1)=W:=hg;obtain ⟨R,hR⟩:∃R,bd v.c.queues Q a r.prio=R:=⟨_,rfl⟩;have hll:=jO v.c.queues Q a r.prio;rw [hR] at hll v2 hg;have hzv:v.c.procs[i]? = some z:=by rw [hp];exact hz
   have hiv:=(List.getElem?_eq_some_iff.1 hzv).1;have kT:=F9 v.c.queues Q a r.prio hR;rw [←hQ] at kT;repeat' (first|refine af ?_ ?_|(refine aa 9 rfl ?_;first|(refine cC [] (kT) ?_)|(refine cH (qf [(1,1010),(2,1011),(3,1020),(4,1021)]) (pF d v R.1 R.2.1 (by omega)) ?_))|refine ae ?_|exact ah|refine ab fun hb=>?_)
   refine ⟨(k+1,v.take R.1 R.2.1),⟨by dsimp only;omega,hp,v2,hg⟩,by dsimp only;omega,?_⟩;exact a8 (qf [(1010,1020),(1011,1021)])
instance (d:Nat):ST prog (eI d) 24 63 184:=⟨ElTB.mk' underlying24 (.agg #[.int .i64 0,.int .i64 0,.int .i64 0,.int .i64 0,.slice none 0 0,.slice none 0 0,.bool false,.int .i64 0,.string ⟨#[]⟩,.int .i64 0,.int .i64 0,.slice none 0 0,.int .i64 0,.int .i64 0,.int .i64 0,.int .i64 0]) 16 184 (by kernel_rfl) rfl rfl⟩
def J2 (w:Wk) (i:Nat):Prop:=i<w.c.procs.length∧w.c.procs.length≤100000∧w.ev.length≤900000∧(bR w.c.queues (w.pc i).proc).2.length≤1000∧StOk (DN w i).c.procs.length (DN w i)
theorem Gg (w:Wk) (i:Nat):gy w i=aQ (DN w i).c.procs.length (DN w i):=rfl
theorem J3 (d:Nat) (w:Wk) (i:Nat) (hok:J2 w i):FSpec prog 96 [gA,oK i] (HI d w) [3,4] (.tup []) (HO d (gy w i)):=by
 refine aP func96 ?_;obtain ⟨hi,hp8,hev,hrl,hs⟩:=hok;obtain ⟨x,hx⟩:∃x,w.c.procs[i]? = some x:=⟨_,List.getElem?_eq_getElem hi⟩;have hpc:=dJ hx;rw [Gg];unfold DN at hs ⊢;rw [hpc] at hs hrl ⊢;obtain ⟨R,hR⟩:∃R,bR w.c.queues x.proc=R:=⟨_,rfl⟩;rw [hR] at hs hrl ⊢;have kR:=DH w.c.queues x.proc hR;have hcut:w.c.procs.take i++w.c.procs.drop (i+1)=w.c.procs.eraseIdx i:=(List.eraseIdx_eq_take_drop_succ ..).symm;have kN:=DG d ⟨{ w.c with queues:=R.1,procs:=w.c.procs.eraseIdx i },w.ev++R.2⟩ 5 x.proc (by simp;omega);have kS:=mb d _ _ hs;have hlq:(w.take R.1 R.2).c.procs.length=w.c.procs.length:=rfl;repeat' (first|refine af ?_ ?_|(refine aa 9 rfl ?_;first|(refine cC [] (kR) ?_)|(refine cH (qf [(3,1003),(4,1004)]) (pF d w R.1 R.2 (by omega)) ?_)|(refine cH (qf [(1,42),(2,1004),(3,1005),(4,1006)]) (kN) ?_)|(refine cH (qf [(1,1005),(2,1006),(3,1007),(4,1008)]) (kS) ?_))|refine ae ?_|exact ah|refine ab fun hb=>?_|(refine aV (Dg rfl rfl rfl rfl rfl rfl (by first|omega|(show _≤w.c.procs.length;omega)) (by first|omega|(show 0<w.c.procs.length;omega))) rfl rfl rfl ?_)|(refine aV (Dh (j:=i+1) rfl rfl rfl rfl rfl (by first|omega|(show _≤w.c.procs.length;omega)) (by first|omega|(show 0<w.c.procs.length;omega))) rfl rfl rfl ?_)|(refine aV (yH rfl rfl rfl rfl rfl rfl (by first|omega|(show _≤w.c.procs.length;omega)) (by first|omega|(show _≤w.c.procs.length;omega)) hcut (by simp only [maxLen];omega) (by omega)) rfl rfl rfl ?_)|(exact mS (qf [(3,1007),(4,1008)])))
section
variable {P:Program} {o:Oper} {s:Mst} {α:Type} {E:El α}
theorem DU {t e:TypeId} {by_ k kr:Nat} {x y:Operand} {l m l':List α} {R:List Nat} [T:ST P E t e by_] (ho:o.op = .call { callee:=.builtin .append,args:=#[x,y],argTypes:=#[t,t] }) (hdk:o.dst=some k) (hx:s.ev x = .c (.ocut kr)) (hkr:s.h kr=some (.arr e E l)) (hy:FH s E y m R) (hl':l++m=l') (hm:0<m.length)
  (hlen:l.length+m.length≤maxLen) (hby:(l.length+m.length)*by_≤140737488355328):LOp P o s (kr :: R) ⟨.c (.ocut k),[(k,some (.arr e E l')),(kr,none)],[k]⟩:=by
 intro c st ρ a w hr h1 h2 h3 h4;subst hl';have hfk:st.f k=true:=h3 k (by simp [aK]);have hk2:=(h2 kr (by simp [aK])).trans hkr;have hne:k.beq kr=false:=by
  cases h9:k.beq kr with
  | false=>rfl
  | true=>rw [←Nat.eq_of_beq_eq_true h9,hr.wf.h k hfk] at hk2;cases hk2
 have hv1:=hr.ev x;rw [h1 x (by simp [ho,Op.operands,Call.operands]),hx] at hv1;obtain ⟨A1,n1,cap1,c1,hρ1,⟨b1,b2⟩,hv1⟩:=(show (D.ocut kr).rep w (Fz c st.h ρ w) ρ (a.eval x) from hv1);obtain ⟨xs,hown,hreps⟩:=hr.hp kr _ hk2;obtain ⟨A,cap,ys,hyv,hyr,hyc⟩:=hy c st ρ a w hr (h1 y (by simp [ho,Op.operands,Call.operands])) fun j hj=>h2 j (by simp only [aK,hj,Bool.or_true]);obtain ⟨b,off,hA,hcells⟩:=hyc hm;subst hA;have hyl:=hyr.length;have hpos:=E.pos;obtain ⟨ti,z,hi1,hi2,hi3,hi4,hi5⟩:=T.T.info;have hexec:∀v' w',(Builtin.append_ #[t,t] o.type #[.slice A1 n1 c1,.slice (some ⟨b,off,none⟩) m.length cap]).run P w = .ok v' w'→(execOp a.eval o).run P w = .ok (.value v') w':=fun v' w' hrun=>by
  unfold execOp;simp only [ho,resolve,invoke,builtin,Sem.run_bind,Sem.run_pure,Result.andThen_ok,List.map_toArray,List.map_cons,List.map_nil,hv1,hyv,hrun]
 have hya:∀j u,ys[j]? = some u→w.cell? ((⟨b,off,none⟩:Addr).add j)=some u:=fun j u hu=>by
  rw [cZ];exact hcells j u hu
 rw [hρ1] at hown;have hxl:=hown.1;have hn1:n1=l.length∧(A1=none→c1=cap1):=by
  rcases hown.2 with ⟨hv,hz⟩|⟨g,cap',cur,hv,_⟩
  ·injection hv with e1 e2 e3;exact ⟨by omega,fun _=>by omega⟩
  ·injection hv with e1 e2 e3;exact ⟨e2,fun h=>by rw [h] at e1;cases e1⟩
 obtain ⟨rfl,hn1⟩:=hn1;have hyo:∀u∈ys,u.oneCell'=true:=hyr.one;have key:∃v' vg w',(execOp a.eval o).run P w = .ok (.value v') w'∧w'.ownsRow 0 e E.n vg (l.length+m.length) (xs++ys)∧w.grownBy w' (Value.slice A1 l.length cap1).ownBlock∧(∀g,vg.ownBlock=some g→(Value.slice A1 l.length cap1).ownBlock=some g∨w.heap.size≤g)∧∃A n cap c,vg = .slice A n cap∧(n≤c∧c≤cap)∧v' = .slice A n c:=by
  obtain ⟨v',w',hrun,ho1,hgr,_,hob⟩:=run_append_own_at (P:=P) w 0 t o.type e ti z E.n by_ T.T.under hi1 hi2 hi3 hi5 hi4 hpos (.slice A1 l.length cap1) l.length xs hown ⟨b,off,none⟩ m.length cap ys hyl hya hyo hlen hby (Nat.zero_le _);have hform:∃A n cap,v' = .slice A n cap∧n≤cap:=by
   rcases ho1.2 with ⟨hv,_⟩|⟨g',cap',cur',hv,_,_,hnc,_⟩
   ·exact ⟨none,0,0,hv,Nat.le_refl _⟩
   ·exact ⟨_,_,_,hv,hnc⟩
  have hobg:∀g,v'.ownBlock=some g→(Value.slice A1 l.length cap1).ownBlock=some g∨w.heap.size≤g:=fun g hg=>by
   rcases hob with h|h
   ·exact .inl (h▸hg)
   ·rw [h] at hg;injection hg with hg;exact .inr (by omega)
  by_cases hcc:c1=cap1
  ·subst hcc;obtain ⟨A,n,cp,hv',hnc⟩:=hform;exact ⟨v',v',w',hexec _ _ hrun,ho1,hgr,hobg,A,n,cp,cp,hv',⟨hnc,Nat.le_refl _⟩,hv'⟩
  ·cases A1 with
   | none=>exact absurd (hn1 rfl) hcc
   | some g0 =>
    obtain ⟨g,cur,rfl,hh,hcm,hcs,ht⟩:∃g cur,g0=⟨g,0,none⟩∧w.heap[g]? = some (.cells cur e (0,0))∧cap1≤maxLen∧cur.size=cap1*E.n∧cur.toList.take (l.length*E.n)=xs:=by
     rcases hown.2 with ⟨hv,_⟩|⟨g',cap',cur,hv,_,hh,_,q1,q2,q3⟩
     ·cases hv
     ·injection hv with e1 e2 e3;injection e1 with e1;subst e3;exact ⟨g',cur,e1,hh,q1,q2,q3⟩
    have hcell:∀j u,xs[j]? = some u→w.cell? ((⟨g,0,none⟩:Addr).add j)=some u:=fun j u hu=>by
     rw [cZ,Nat.zero_add,cell_of_row w g j cur e (0,0) hh,←Array.getElem?_toList];rw [←ht,List.getElem?_take] at hu;split at hu
     ·exact hu
     ·cases hu
    by_cases hroom:l.length+m.length≤c1
    ·have hsz:(l.length+m.length)*E.n≤cap1*E.n:=Nat.mul_le_mul_right _ (by omega);have hin:∀j,j<ys.length→l.length*ti.size+j<cur.size:=fun j hj=>by rw [hcs,hi3];rw [hyl] at hj;rw [Nat.add_mul] at hsz;omega
     have hc:∀j,j<ys.length→(w.cell? ⟨g,0+l.length*ti.size+j,none⟩).isSome=true:=fun j hj=>by
      rw [cell_of_row w g _ cur e (0,0) hh];simp [Nat.zero_add,hin j hj]
     have hf:∀j,j<ys.length→w.frozen? ⟨g,0+l.length*ti.size+j,none⟩=false:=fun j _=>frozen_of_row w g _ cur e hh;have r1:=run_append_room_cells (P:=P) w t o.type e ti T.T.under hi1 g 0 l.length cap1 ⟨b,off,none⟩ m.length cap ys (by rw [hi3];exact hyl) hya hyo (by omega) hc hf;have r2:=run_append_room_cells (P:=P) w t o.type e ti T.T.under hi1 g 0 l.length c1 ⟨b,off,none⟩ m.length cap ys (by rw [hi3];exact hyl) hya hyo hroom hc hf;rw [hrun] at r1;injection r1 with r1 r1';subst r1;subst r1';exact ⟨_,_,_,hexec _ _ r2,ho1,hgr,hobg,_,_,_,_,rfl,⟨hroom,b2⟩,rfl⟩
    ·obtain ⟨v2,w2,hrun2,ho2,hgr2⟩:=run_append_arg_grows (P:=P) w t o.type e ti z E.n by_ T.T.under hi1 hi2 hi3 hi5 hi4 hpos ⟨g,0,none⟩ l.length c1 xs hxl hcell ⟨b,off,none⟩ m.length cap ys hyl hya (by omega) hlen hby;obtain ⟨g',cap',rfl,hb1,hb3⟩:∃g' cap',v2 = .slice (some ⟨g',0,none⟩) (l.length+m.length) cap'∧w.heap.size≤g'∧l.length+m.length≤cap':=by
      rcases ho2.2 with ⟨_,hz⟩|⟨g',cap',cur',hv,hb,_,hnc',_⟩
      ·omega
      ·exact ⟨g',cap',hv,hb,hnc'⟩
     refine ⟨_,_,w2,hexec _ _ hrun2,⟨ho2.1,ho2.2.imp id fun ⟨a1,a2,a3,a4,_,a6⟩=>⟨a1,a2,a3,a4,Nat.zero_le _,a6⟩⟩,⟨hgr2.os,hgr2.tape,hgr2.output,hgr2.size,fun b hb _=>hgr2.block b hb (by simp)⟩,fun g2 hg2=>.inr ?_,_,_,cap',cap',rfl,⟨hb3,Nat.le_refl _⟩,rfl⟩;injection hg2 with hg2;simp at hg2;omega
 obtain ⟨v',vg,w',hrun,ho1,hgr,hob,A',n',cap',c',hvg,hcc,hv'⟩:=key;have hob1:∀{g:Nat} {u:Value},(∃A n cap,u = .slice A n cap)→(kb u=some g↔u.ownBlock=some g):=fun {g u} ⟨A,n,cap,h⟩=>by
  subst h;cases A <;> exact Iff.rfl
 have hkb:∀g,(Value.slice A1 l.length cap1).ownBlock=some g↔kb (ρ kr)=some g:=fun g=>by rw [hρ1];exact (hob1 ⟨_,_,_,rfl⟩).symm
 have hg':∀g,kb vg=some g→g<w'.heap.size∧(w.heap.size≤g∨kb (ρ kr)=some g):=fun g hg=>by
  have h:=(hob1 ⟨_,_,_,hvg⟩).1 hg;exact ⟨(ho1.lt g h).2,(hob g h).symm.imp id (hkb g).1⟩
 have hky:∀n,aA [(k,some (Box.arr e E (l++m))),(kr,none)] n=true↔n=k∨n=kr:=fun n=>by
  simp only [aA,Bool.or_false,Bool.or_eq_true];constructor
  ·rintro (h|h)
   ·exact .inl (Nat.eq_of_beq_eq_true h).symm
   ·exact .inr (Nat.eq_of_beq_eq_true h).symm
  ·rintro (rfl|rfl)
   ·exact .inl (Nat.beq_refl _)
   ·exact .inr (Nat.beq_refl _)
 have hputk:hput [(k,some (Box.arr e E (l++m))),(kr,none)] st.h k=some (.arr e E (l++m)):=by simp [hput]
 have hputr:hput [(k,some (Box.arr e E (l++m))),(kr,none)] st.h kr=none:=by simp [hput,hne]
 have hsm:∀n bx,aA [(k,some (Box.arr e E (l++m))),(kr,none)] n=true→hput [(k,some (Box.arr e E (l++m))),(kr,none)] st.h n=some bx→n=k∧bx = .arr e E (l++m):=fun n bx hn hb=>by
  rcases (hky n).1 hn with rfl|rfl
  ·rw [hputk] at hb;exact ⟨rfl,(Option.some.inj hb).symm⟩
  ·rw [hputr] at hb;cases hb
 have hblk:∀b,b<w.heap.size→kb (ρ kr)≠some b→w'.heap[b]? = w.heap[b]?:=fun b hlt hn=>hgr.block b hlt fun he=>hn ((hkb b).1 he.symm);have hFz:∀b,Fz c st.h ρ w b→Fz c (hput [(k,some (Box.arr e E (l++m))),(kr,none)] st.h) (upd ρ k vg) w' b∧w'.heap[b]? = w.heap[b]?:=fun b hb=>by
  have hnb:=hb.2.2 kr _ hk2;refine ⟨⟨hb.1,Nat.lt_of_lt_of_le hb.2.1 hgr.size,fun n bx hn he=>?_⟩,hblk b hb.2.1 hnb⟩;cases h9:aA [(k,some (Box.arr e E (l++m))),(kr,none)] n with
  | true =>
   obtain ⟨rfl,_⟩:=hsm n bx h9 hn;rw [aI] at he;rcases (hg' b he).2 with h|h
   ·have:=hb.2.1;omega
   ·exact hnb h
  | false =>
   rw [bN h9] at hn;have hkn:k.beq n=false:=by
    cases h8:k.beq n with
    | false=>rfl
    | true=>rw [←Nat.eq_of_beq_eq_true h8,hr.wf.h k hfk] at hn;cases hn
   rw [df hkn] at he;exact hb.2.2 n bx hn he
 refine Oper.wp_value hrun ⟨upd ρ k vg,hr.app (e:=⟨.c (.ocut k),[(k,some (.arr e E (l++m))),(kr,none)],[k]⟩) h4 (fun n hn=>?_) (fun n hn=>df (by simpa [aK] using hn)) (fun n hn=>?_) ⟨hgr.os,hgr.tape,hgr.output,hgr.size,fun b hlt hn=>hblk b hlt fun e=>hn ⟨kr,_,(hky kr).2 (.inr rfl),hk2,e⟩⟩ (fun n bx g' hn hb hg=>?_) (fun n n' b b' g' hn hn' hb hb' _ _=>?_) (fun n hn=>.inl ?_) (fun n n' bx hn hb hx2=>?_) (fun n bx hn hb=>?_) ?_⟩
 ·have:n=k:=by simp [aK] at hn;exact hn.symm
  subst this;exact ⟨hfk,(hky n).2 (.inl rfl)⟩
 ·rcases (hky n).1 hn with rfl|rfl
  ·exact .inl (by simp [aK])
  ·exact .inr (hr.nfh hk2)
 ·obtain ⟨rfl,_⟩:=hsm n bx hn hb;rw [aI] at hg;exact ⟨(hg' g' hg).1,(hg' g' hg).2.imp id fun h=>⟨kr,_,(hky kr).2 (.inr rfl),hk2,h⟩⟩
 ·rw [(hsm n b hn hb).1,(hsm n' b' hn' hb').1]
 ·have:n=k:=by simp [TV.has,V0.has,D.has] at hn;exact hn.symm
  subst this;simp [aK]
 ·rw [(hsm n' bx hn hb).2] at hx2;simp [Box.has] at hx2
 ·obtain ⟨rfl,rfl⟩:=hsm n bx hn hb;rw [aI];exact ⟨xs++ys,by rw [List.length_append];exact ho1,(hreps.append hyr).same (fun b hb=>(hFz b hb).2) fun b hb=>(hFz b hb).1⟩
 ·exact ⟨A',n',cap',c',(aI ρ k vg).trans hvg,hcc,hv'⟩
end
theorem xC (l:List Pc) (d:Nat) (p:Pr):FSpec prog 30 [.one (.sl (eI d) l),.ag [.sc (.int .i64 p.site),.sc (.int .i64 p.inc),.sc (.int .i64 p.num)]] [] [] (.i (db p 0 l)) []:=by
 refine gp func30 rfl (fun b W=>by kernel_rfl) rfl (Nat.le_of_ble_eq_true rfl) ?_;refine aM (fun c ρ a w hr=>bz (t:=0) hr rfl) (fun hl=>?_);repeat' (first|refine af ?_ ?_|refine ae ?_|exact ah|refine ab fun hb=>?_)
 refine ai (fun i=>i≤l.length∧db p i (l.drop i)=db p 0 l) (fun i=>bt [3] [(0,.c (.sl (eI d) l)),(3,.c (.ptr 3 0)),(5,.i i)] [(3,.box 35 [.sc (.int .i64 p.site),.sc (.int .i64 p.inc),.sc (.int .i64 p.num)])]) (fun i=>l.length-i) 0 ⟨Nat.zero_le _,rfl⟩
  (by refine CW (qf []) rfl ?_ ?_ <;> repeat' (first|exact trivial|exact jA rfl|exact ⟨_,rfl,gq rfl⟩|refine ⟨?_,?_⟩)) ?_
 rintro i ⟨hi,hs⟩;repeat' (first|refine af ?_ ?_|refine ae ?_|exact ah|refine ab fun hb=>?_)
 ·refine yx (.inr rfl) rfl rfl ?_;rw [←hs,List.drop_eq_getElem_cons (by omega)];simp [db,hb]
 ·refine ⟨i+1,⟨by omega,?_⟩,by omega,?_⟩
  ·rw [←hs,List.drop_eq_getElem_cons (i:=i) (by omega)];simp [db,hb]
  ·refine CW (qf []) rfl ?_ ?_ <;> repeat' (first|exact trivial|exact jA rfl|exact ⟨_,rfl,gq rfl⟩|refine ⟨?_,?_⟩)
 ·refine yx (.inr rfl) rfl rfl ?_;rw [←hs,List.drop_eq_nil_of_le (by omega)];rfl
def ID (p:Pr) (P:List Pc):Prop:=∀i j (hi:i<P.length) (hj:j<P.length),i≤j→0<bE P[i].proc p→0<bE P[j].proc p
theorem yW (x:Pc):∀(P:List Pc) (k:Nat),k≤P.length→(∀j (hj:j<P.length),j<k→¬0<bE P[j].proc x.proc)→(∀j (hj:j<P.length),k≤j→0<bE P[j].proc x.proc)→j6 x P=P.take k++x :: P.drop k
 | [],k,hk,_,_=>by
  obtain rfl:k=0:=by simpa using hk
  rfl
 | y :: P,0,_,_,h2=>by
  have:=h2 0 (by simp) (Nat.le_refl _);simp only [List.getElem_cons_zero] at this;simp [j6,this]
 | y :: P,k+1,hk,h1,h2=>by
  have h3:=h1 0 (by simp) (by omega);simp only [List.getElem_cons_zero] at h3;have ih:=yW x P k (by simpa using hk) (fun j hj hjk=>by have:=h1 (j+1) (by simpa using hj) (by omega);simpa using this) (fun j hj hjk=>by have:=h2 (j+1) (by simpa using hj) (by omega);simpa using this);simp [j6,h3,ih]
theorem Gh {P:List Pc} {x:Pc} {k:Nat} (hk:k<P.length):((P.take (k+1)++x :: P.drop (k+1)).set (k+1) P[k]).set k x=P.take k++x :: P.drop k:=by
 have hl:(P.take k).length=k:=by simp;omega
 rw [List.take_succ_eq_append_getElem hk,List.drop_eq_getElem_cons hk,List.append_assoc,List.singleton_append];generalize P.take k=A at *
 generalize P.drop (k+1)=B at *
 generalize P[k]=z at *
 rw [List.set_append_right _ _ (by omega),show k+1-A.length=1 by omega,List.set_cons_succ,List.set_cons_zero,List.set_append_right _ _ (by omega),show k-A.length=0 by omega,List.set_cons_zero]
theorem vt (l:List Pc) (d:Nat) (p:Pr) {z:Int} (h:db p 0 l=z):FSpec prog 30 [.one (.sl (eI d) l),p.a] [] [] (.i z) []:=h▸xC l d p
theorem J4 (d:Nat) (w:Wk) (p:Pr) (cost:Int) (h8:w.c.procs.length≤100000) (hup:ID p w.c.procs) {Z:Wk×Int} (hZ:i4 w p cost=Z):FSpec prog 87 [gA,p.a,oK cost] (HI d w) [3,4] (.i Z.2) (HO d Z.1):=by
 refine aP func87 ?_;unfold i4 at hZ;have kV:=ga p;obtain ⟨bA,hA⟩:∃b,(jl p && decide (1≤cost) && decide (cost≤1000))=b:=⟨_,rfl⟩;rw [hA] at hZ;cases bA with
 | false =>
  obtain rfl:Z=(w,1):=by rw [←hZ];rfl
  obtain ⟨v,hv⟩:∃v,jl p=v:=⟨_,rfl⟩;rw [hv] at kV hA;cases v with
  | false =>
   repeat' (first|refine af ?_ ?_|refine aa 9 rfl (cB [] (kV) ?_)|refine ae ?_|exact ah|refine ab fun hb=>?_|(refine bP (qf [(3,1),(4,2)]) ?_;exact aj))
  | true =>
   simp only [Bool.true_and,Bool.and_eq_false_iff,decide_eq_false_iff_not] at hA;by_cases h1:1≤cost
   ·repeat' (first|refine af ?_ ?_|refine aa 9 rfl (cB [] (kV) ?_)|refine ae ?_|exact ah|refine ab fun hb=>?_|(refine bP (qf [(3,1),(4,2)]) ?_;exact aj))
   ·repeat' (first|refine af ?_ ?_|refine aa 9 rfl (cB [] (kV) ?_)|refine ae ?_|exact ah|refine ab fun hb=>?_|(refine bP (qf [(3,1),(4,2)]) ?_;exact aj))
 | true =>
  simp only [Bool.and_eq_true,decide_eq_true_eq] at hA;obtain ⟨⟨hv,h1⟩,h2⟩:=hA;rw [hv] at kV;rw [Bool.not_true,cond_false] at hZ;obtain ⟨ix,hix⟩:∃ix,db p 0 w.c.procs=ix:=⟨_,rfl⟩;have kI:=vt w.c.procs d p hix;rw [hix] at hZ;by_cases h0:0≤ix
  ·obtain rfl:Z=(w,11):=by rw [←hZ,decide_eq_true h0];rfl
   repeat' (first|refine af ?_ ?_|(refine aa 9 rfl ?_;first|(refine cB [] (kV) ?_)|(refine cB [1] (kI) ?_))|refine ae ?_|exact ah|refine ab fun hb=>?_|(refine bP (qf [(3,1),(4,2)]) ?_;exact aj))
  ·rw [decide_eq_false h0,cond_false] at hZ;by_cases hl:w.c.procs.length=8
   ·obtain rfl:Z=(w,4):=by rw [←hZ,decide_eq_true hl];rfl
    repeat' (first|refine af ?_ ?_|(refine aa 9 rfl ?_;first|(refine cB [] (kV) ?_)|(refine cB [1] (kI) ?_))|refine ae ?_|exact ah|refine ab fun hb=>?_|(refine bP (qf [(3,1),(4,2)]) ?_;exact aj))
   ·rw [decide_eq_false hl,cond_false] at hZ;obtain ⟨R0,hR0⟩:∃R0,w.c.procs++[{ B7 with proc:=p,cost:=cost }]=R0:=⟨_,rfl⟩;obtain ⟨P,hP⟩:∃P,w.c.procs=P:=⟨_,rfl⟩;have hR0l:R0.length=P.length+1:=by rw [←hR0,hP];simp
    have hPl:P.length≤100000:=hP▸h8;repeat' (first|refine af ?_ ?_|(refine aa 9 rfl ?_;first|(refine cB [] (kV) ?_)|(refine cB [1] (kI) ?_))|refine ae ?_|exact ah|refine ab fun hb=>?_|(refine aV (DU rfl rfl rfl rfl (xb [{ B7 with proc:=p,cost:=cost }] rfl rfl (by (repeat' (first|exact trivial|exact .same _|exact .nil|refine ⟨?_,?_⟩));first|done|fail) rfl) hR0 (by simp) (by simp only [List.length_cons,List.length_nil,maxLen];omega) (by simp only [List.length_cons,List.length_nil];omega)) rfl rfl rfl ?_))
    obtain ⟨x,hx⟩:∃x,({ B7 with proc:=p,cost:=cost }:Pc)=x:=⟨_,rfl⟩;have hxp:x.proc=p:=by rw [←hx]
    have hR0':R0=P.take P.length++x :: P.drop P.length:=by rw [←hR0,hP,hx];simp
    have hZ:((⟨{ w.c with procs:=j6 x w.c.procs },w.ev⟩,0):Wk×Int)=Z:=by rw [←hx];exact hZ
    clear hR0 hx hix kI kV;rw [hP] at hup;refine ai (fun y:Nat×List Pc=>y.1≤P.length∧y.2=P.take y.1++x :: P.drop y.1∧∀j (hj:j<P.length),y.1≤j→0<bE P[j].proc p) (fun y=>bt [0,1,2,4,1010] [(0,.v gA),(4,.c (.ptr 4 0)),(7,.c (.ocut 1010)),(8,.i y.1)] [(0,.box 89 (B8 w 1 2)),(2,.arr 67 fG w.ev),(4,.box 35 [.sc (.int .i64 p.site),.sc (.int .i64 p.inc),.sc (.int .i64 p.num)]),(1010,.arr 63 (eI d) y.2)]) (fun y=>y.1) (P.length,R0) ⟨Nat.le_refl _,hR0',fun j hj h=>absurd hj (by dsimp only at h;omega)⟩ (by exact a8 (qf [(1010,45)])) ?_;clear hR0' hR0l R0;rintro ⟨k,R⟩ ⟨hk,hR,hgt⟩;dsimp only at *
    have hRl:R.length=P.length+1:=by rw [hR];simp;omega
    have hRk:R[k]? = some x:=by
     rw [hR,List.getElem?_append_right (by simp;omega)];simp;rw [Nat.min_eq_left hk];simp
    have fin:(∀j (hj:j<P.length),j<k→¬0<bE P[j].proc p)→R=j6 x w.c.procs:=fun h=>by
     rw [hR,hP];exact (yW x P k hk (by rw [hxp];exact h) (by rw [hxp];exact hgt)).symm
    cases k with
    | zero =>
     have hf:=fin (fun j _ h=>absurd h (by omega));rw [←hf] at hZ;obtain rfl:Z=(⟨{ w.c with procs:=R },w.ev⟩,0):=hZ.symm;repeat' (first|refine af ?_ ?_|refine ae ?_|exact ah|refine ab fun hb=>?_|(refine bP (qf [(3,1010),(4,2)]) ?_;exact aj))
    | succ j =>
     have hj:j<P.length:=hk;obtain ⟨z,hz⟩:∃z,P[j]=z:=⟨_,rfl⟩;have ej:(((j+1:Nat):Int)-1).toNat=j:=by omega
     have hRj:R[(((j+1:Nat):Int)-1).toNat]? = some z:=by
      rw [ej,hR,List.getElem?_append_left (by simp;omega),List.getElem?_take,if_pos (by omega),List.getElem?_eq_getElem hj,hz]
     obtain ⟨e,he⟩:∃e,bE z.proc x.proc=e:=⟨_,rfl⟩;have kC:=i6 z.proc x.proc;rw [he] at kC;by_cases h0:0<e
     ·have hR1:(R.set (j+1) z)[(((j+1:Nat):Int)-1).toNat]? = some z:=by
       rw [List.getElem?_set_ne (by omega)];exact hRj
      have hl1:(R.set (j+1) z).length=R.length:=List.length_set;repeat' (first|refine af ?_ ?_|refine aa 9 rfl (cB [1010] (kC) ?_)|refine ae ?_|(refine aa 4 rfl ?_;first|(refine aR (aq (z:=z) rfl rfl rfl rfl hRk rfl rfl rfl rfl (Nat.le_of_ble_eq_true rfl) rfl rfl) rfl rfl rfl ?_)|(refine aR (aq (z:=x) rfl rfl rfl rfl hR1 rfl rfl rfl rfl (Nat.le_of_ble_eq_true rfl) rfl rfl) rfl rfl rfl ?_))|exact ah|refine ab fun hb=>?_)
      refine ⟨(j,(R.set (j+1) z).set (((j+1:Nat):Int)-1).toNat x),⟨by dsimp only;omega,?_,fun i hi hij=>?_⟩,by dsimp only;omega,?_⟩
      ·dsimp only;rw [ej,hR,←hz];exact Gh hj
      ·dsimp only at hij;by_cases e2:i=j
       ·subst e2;rw [hz,←hxp,he];exact h0
       ·exact hgt i hi (by omega)
      ·exact aN
     ·have hf:=fin (fun i hi hij hpos=>h0 (by
       have:=hup i j hi hj (by omega) hpos;rw [hz,←hxp,he] at this;exact this))
      rw [←hf] at hZ;obtain rfl:Z=(⟨{ w.c with procs:=R },w.ev⟩,0):=hZ.symm;repeat' (first|refine af ?_ ?_|refine aa 9 rfl (cB [1010] (kC) ?_)|refine ae ?_|exact ah|refine ab fun hb=>?_|(refine bP (qf [(3,1010),(4,2)]) ?_;exact aj))
theorem DV {α:Type} {R:α→α→Prop} (irr:∀a,¬R a a) (asy:∀a b,R a b→¬R b a):∀{l l':List α},l.Pairwise R→l'.Pairwise R→(∀x,x∈l↔x∈l')→l=l'
 | [],[],_,_,_=>rfl
 | [],b :: m,_,_,h=>absurd ((h b).2 (by simp)) (by simp)
 | a :: l,[],_,_,h=>absurd ((h a).1 (by simp)) (by simp)
 | a :: l,b :: m,h1,h2,h=>by
  obtain ⟨k1,k2⟩:=List.pairwise_cons.1 h1;obtain ⟨k3,k4⟩:=List.pairwise_cons.1 h2;have hab:a=b:=by
   rcases List.mem_cons.1 ((h a).1 (by simp)) with e|e
   ·exact e
   ·rcases List.mem_cons.1 ((h b).2 (by simp)) with e2|e2
    ·exact e2.symm
    ·exact absurd (k1 b e2) (asy b a (k3 a e))
  subst hab;congr 1
  refine DV irr asy k2 k4 fun x=>⟨fun hx=>?_,fun hx=>?_⟩
  ·rcases List.mem_cons.1 ((h x).1 (by simp [hx])) with e|e
   ·subst e;exact absurd (k1 x hx) (irr x)
   ·exact e
  ·rcases List.mem_cons.1 ((h x).2 (by simp [hx])) with e|e
   ·subst e;exact absurd (k3 x hx) (irr x)
   ·exact e
def Js (a b:Tm):Prop:=jo a.name b.name=true
theorem Gi (a:Tm):¬Js a a:=fun h=>by unfold Js at h;rw [eG] at h;cases h
theorem Gj (a b:Tm) (h:Js a b):¬Js b a:=fun k=>by
 have:=f7 h k;rw [eG] at this;cases this
theorem jc {g:Lg} {a:Tm}:a∈eH g↔ax g.entries a.name=a.am∧a.am≠⟨0,0⟩:=by
 unfold eH;rw [List.mem_filter,List.mem_map];constructor
 ·rintro ⟨⟨m,_,rfl⟩,h⟩;rw [Bool.not_eq_true',bl] at h;exact ⟨rfl,h⟩
 ·rintro ⟨h1,h2⟩;refine ⟨⟨a.name,?_,by rw [h1]⟩,by rw [Bool.not_eq_true',bl];exact h2⟩;refine Classical.byContradiction fun hn=>h2 ?_;rw [←h1];exact gh a.name g.entries ⟨0,0⟩ fun e he e2=>hn (dh.2 ⟨e,he,e2⟩)
theorem BD (g:Lg):(eH g).Pairwise Js:=by
 unfold eH;refine List.Pairwise.sublist List.filter_sublist ?_;rw [List.pairwise_map];exact fy g.entries
theorem oR {t:List Qu} {p:Pr} {a:Tm}:a∈dH t p↔(∃q∈t,q.res.name=a.name∧ao q.holds p=a.am)∧a.am≠⟨0,0⟩:=by
 unfold dH;rw [List.mem_filter,List.mem_map,Bool.not_eq_true',bl];constructor
 ·rintro ⟨⟨q,hq,rfl⟩,h⟩;exact ⟨⟨q,hq,rfl,rfl⟩,h⟩
 ·rintro ⟨⟨q,hq,h1,h2⟩,h⟩;exact ⟨⟨q,hq,by rw [h1,h2]⟩,h⟩
theorem BE {t:List Qu} (hv:du t=true) (p:Pr):(dH t p).Pairwise Js:=by
 unfold dH;refine List.Pairwise.sublist List.filter_sublist ?_;rw [List.pairwise_map];have:=(lj (bf hv).2.1).1;unfold fk at this;rw [List.pairwise_map] at this;exact this
theorem lE {p:Pr}:∀{t:List Qu},bD p t=[]↔∀q∈t,ap q p=none
 | []=>by simp [bD]
 | q :: t=>by
  unfold bD;cases hw:ap q p with
  | some a =>
   constructor
   ·intro h;cases h
   ·intro h;have:=h q (by simp);rw [hw] at this;cases this
  | none =>
   dsimp only;rw [lE];constructor
   ·intro h x hx;rcases List.mem_cons.1 hx with rfl|hx
    ·exact hw
    ·exact h x hx
   ·intro h x hx;exact h x (by simp [hx])
theorem Ab {t:List Qu} {x:Pc} (hv:du t=true) (hf:∀n,gD x n≠⟨0,0⟩→aW t n=true):(eH x.led=dH t x.proc∧bD x.proc t=[])↔∀n,aW t n=true→FitR t n x:=by
 constructor
 ·rintro ⟨h1,h2⟩ n hn;obtain ⟨hm,hnm⟩:=dL hn;refine ⟨?_,lE.1 h2 _ hm⟩;by_cases h0:ao (be t n).holds x.proc=⟨0,0⟩
  ·rw [h0];refine Classical.byContradiction fun hne=>?_;have h3:(⟨n,gD x n⟩:Tm)∈eH x.led:=jc.2 ⟨rfl,fun e=>hne e.symm⟩;rw [h1,oR] at h3;obtain ⟨⟨q,hq,e1,e2⟩,_⟩:=h3;have h4:=(lZ hv hq).2;rw [show q.res.name=n from e1] at h4;rw [h4,e2] at h0;exact hne h0.symm
  ·have h3:(⟨n,ao (be t n).holds x.proc⟩:Tm)∈dH t x.proc:=oR.2 ⟨⟨_,hm,hnm,rfl⟩,h0⟩;rw [←h1,jc] at h3;exact h3.1.symm
 ·intro h;refine ⟨DV Gi Gj (BD x.led) (BE hv x.proc) fun a=>?_,lE.2 fun q hq=>?_⟩
  ·rw [jc,oR];constructor
   ·rintro ⟨h1,h2⟩;have hn:aW t a.name=true:=hf a.name (by show ax x.led.entries a.name≠_;rw [h1];exact h2);obtain ⟨hm,hnm⟩:=dL hn;exact ⟨⟨_,hm,hnm,by rw [(h a.name hn).h];exact h1⟩,h2⟩
   ·rintro ⟨⟨q,hq,e1,e2⟩,h2⟩;obtain ⟨hn,hqa⟩:=lZ hv hq;rw [e1] at hn hqa;have:=(h a.name hn).h;rw [hqa,e2] at this;exact ⟨this.symm,h2⟩
  ·obtain ⟨hn,hqa⟩:=lZ hv hq;have:=(h _ hn).w;rw [hqa] at this;exact this
theorem nX {α:Type} {o:Option α}:o.isSome=false↔o=none:=by cases o <;> simp
theorem pI {t:List Qu} {q:Qu} {x:Pc} (hq:be t q.res.name=q):(decide (ao q.holds x.proc=ax x.led.entries q.res.name) && !(ap q x.proc).isSome)=true↔FitR t q.res.name x:=by
 rw [Bool.and_eq_true,decide_eq_true_eq,Bool.not_eq_true',nX];constructor
 ·rintro ⟨h1,h2⟩;exact ⟨by rw [hq];exact h1,by rw [hq];exact h2⟩
 ·rintro ⟨h1,h2⟩;rw [hq] at h1 h2;exact ⟨h1,h2⟩
theorem pJ {q:Qu} {x:Pc}:∀{l:List Tm},(∀a∈l,a.name≠q.res.name)→b7 q x l=(decide (ao q.holds x.proc=ax x.led.entries q.res.name) && !(ap q x.proc).isSome)
 | [],_=>rfl
 | a :: l,h=>by
  unfold b7;rw [bZ.2 (h a (by simp)),Bool.not_false,Bool.true_or,cond_true];exact pJ fun b hb=>h b (by simp [hb])
theorem m4 {t:List Qu} {q:Qu} {x:Pc} (hq:be t q.res.name=q):∀{l:List Tm},B9 l→(b7 q x l=true↔FitW t q.res.name x l)
 | [],_=>by
  unfold b7 FitW;exact pI hq
 | a :: l,hn=>by
  obtain ⟨h1,h2⟩:=List.pairwise_cons.1 hn;have ih:=m4 (x:=x) hq h2;unfold FitW at ih ⊢;rw [di];unfold b7;cases hnm:ba a.name q.res.name with
  | false =>
   rw [Bool.not_false,Bool.true_or,cond_true,cond_false];exact ih
  | true =>
   have hname:=bb.1 hnm;have hno:∀b∈l,b.name≠q.res.name:=fun b hb e=>h1 b hb (hname.trans e.symm);rw [Bool.not_true,Bool.false_or,cond_true];dsimp only;unfold FitA jn;rw [hq];cases hc:bg q.res (ax x.led.entries q.res.name) a.am with
   | true =>
    rw [cond_true,pJ hno,pI hq];constructor
    ·intro h;exact .inl ⟨rfl,h⟩
    ·rintro (⟨_,h⟩|⟨h,_⟩)
     ·exact h
     ·cases h
   | false =>
    rw [cond_false];cases hw:ap q x.proc with
    | none =>
     simp only [Option.isSome_none,Bool.not_false,cond_true,decide_eq_true_eq];constructor
     ·intro h;exact .inr ⟨trivial,.inl ⟨h,trivial⟩⟩
     ·rintro (⟨h,_⟩|⟨_,⟨h,_⟩|⟨_,h,_⟩⟩)
      ·cases h
      ·exact h
      ·cases h
    | some b =>
     simp only [Option.isSome_some,Bool.not_true,cond_false];cases hp:q.waits.any (fun y=>decide (y.proc=x.proc) && !decide (y.prio=x.req.prio)) with
     | true =>
      rw [cond_true];constructor
      ·intro h;cases h
      ·rintro (⟨h,_⟩|⟨_,⟨_,h⟩|⟨_,_,h⟩⟩)
       ·cases h
       ·cases h
       ·rw [List.any_eq_true] at hp;obtain ⟨y,hy,h3⟩:=hp;simp only [Bool.and_eq_true,decide_eq_true_eq,Bool.not_eq_true',decide_eq_false_iff_not] at h3;exact absurd (h y hy h3.1) h3.2
     | false =>
      rw [cond_false,Bool.and_eq_true,decide_eq_true_eq,decide_eq_true_eq];rw [List.any_eq_false] at hp;constructor
      ·rintro ⟨h3,h4⟩;refine .inr ⟨trivial,.inr ⟨h3,h4,fun y hy hyp=>?_⟩⟩;have:=hp y hy;simp only [Bool.and_eq_true,decide_eq_true_eq,Bool.not_eq_true',decide_eq_false_iff_not,not_and,Decidable.not_not] at this;exact this hyp
      ·rintro (⟨h,_⟩|⟨_,⟨_,h⟩|⟨h3,h4,_⟩⟩)
       ·cases h
       ·cases h
       ·exact ⟨h3,h4⟩
def tY (c:Cs) (x:Pc):Prop:=x.waiting=true→(x.req.limit=0∨c.now<x.since+x.req.limit)∧dA c.queues x=false
theorem oS {c:Cs} {x:Pc} (hv:du c.queues=true):mx c x=true↔PInv c.queues c.now x∧tY c x:=by
 have hhf:(eH x.led).all (fun a=>aW c.queues a.name && aF (be c.queues a.name).res a.am)=true↔∀n,gD x n≠⟨0,0⟩→aW c.queues n=true∧aF (be c.queues n).res (gD x n)=true:=by
  rw [List.all_eq_true];constructor
  ·intro h n hn;have:=h ⟨n,gD x n⟩ (jc.2 ⟨rfl,hn⟩);rw [Bool.and_eq_true] at this;exact this
  ·intro h a ha;obtain ⟨h1,h2⟩:=jc.1 ha;have:=h a.name (by show ax x.led.entries a.name≠_;rw [h1];exact h2);rw [show gD x a.name=a.am from h1] at this;rw [Bool.and_eq_true];exact this
 unfold mx;cases hw:x.waiting with
 | false =>
  simp only [Bool.not_false,cond_true,Bool.and_eq_true,decide_eq_true_eq,hhf,fm,FU];constructor
  ·rintro ⟨⟨⟨⟨⟨⟨⟨h1,h2⟩,h3⟩,h4⟩,h5⟩,h6⟩,h7⟩,⟨⟨h8,h9⟩,h10⟩,h11⟩;refine ⟨⟨⟨h1,⟨h2,h3⟩,h4,⟨h5,h6⟩,h7⟩,fun _=>⟨h8,h9,(Ab hv fun n hn=>(h7 n hn).1).1 ⟨h10,h11⟩⟩,fun h=>?_⟩,fun h=>?_⟩
   ·rw [hw] at h;cases h
   ·rw [hw] at h;cases h
  ·rintro ⟨⟨⟨h1,h2,h4,h5,h7⟩,h8,_⟩,_⟩;obtain ⟨k1,k2,k3⟩:=h8 hw;obtain ⟨k4,k5⟩:=(Ab hv fun n hn=>(h7 n hn).1).2 k3;exact ⟨⟨⟨⟨⟨⟨⟨h1,h2.1⟩,h2.2⟩,h4⟩,h5.1⟩,h5.2⟩,h7⟩,⟨⟨k1,k2⟩,k4⟩,k5⟩
 | true =>
  have hfw:c.queues.all (fun q=>b7 q x (cy x.req.expr))=true↔∀n,aW c.queues n=true→FitW c.queues n x (cy x.req.expr):=by
   rw [List.all_eq_true];constructor
   ·intro h n hn;obtain ⟨hm,hnm⟩:=dL hn;have h1:=(m4 (t:=c.queues) (q:=be c.queues n) (x:=x) (by rw [hnm]) (mZ x.req.expr)).1 (h _ hm);rw [hnm] at h1;exact h1
   ·intro h q hq;obtain ⟨hn,hqa⟩:=lZ hv hq;exact (m4 hqa (mZ x.req.expr)).2 (h _ hn)
  have hsat:dA c.queues x=dD x.req.expr (aZ c.queues x.proc x.req.expr):=by unfold dA;rw [hw];rfl
  simp only [Bool.not_true,cond_false,Bool.and_eq_true,Bool.or_eq_true,decide_eq_true_eq,hhf,fm,hfw,Bool.not_eq_true',←hsat];constructor
  ·rintro ⟨⟨⟨⟨⟨⟨⟨h1,h2⟩,h3⟩,h4⟩,h5⟩,h6⟩,h7⟩,⟨⟨⟨⟨⟨h8,h9⟩,h10⟩,h11⟩,h12⟩,h13⟩,h14⟩;refine ⟨⟨⟨h1,⟨h2,h3⟩,h4,⟨h5,h6⟩,h7⟩,fun h=>?_,fun _=>⟨⟨h8,h9,h10,h11⟩,h14⟩⟩,fun _=>⟨h12,h13⟩⟩;rw [hw] at h;cases h
  ·rintro ⟨⟨⟨h1,h2,h4,h5,h7⟩,_,h8⟩,h9⟩;obtain ⟨k1,k2⟩:=h8 hw;obtain ⟨k3,k4⟩:=h9 hw;exact ⟨⟨⟨⟨⟨⟨⟨h1,h2.1⟩,h2.2⟩,h4⟩,h5.1⟩,h5.2⟩,h7⟩,⟨⟨⟨⟨⟨k1.rq,k1.rs⟩,k1.sn.1⟩,k1.sn.2⟩,k3⟩,k4⟩,k2⟩
theorem xD (c:Cs):∀(l:List Pc) (o:Option Pr),uZ c o l=true↔(∀x∈l,mx c x=true)∧(l.map (·.proc)).Pairwise fT∧∀p,o=some p→∀x∈l,fT p x.proc
 | [],o=>by simp [uZ]
 | x :: l,o=>by
  unfold uZ;simp only [Bool.and_eq_true,xD c l,zD];constructor
  ·rintro ⟨⟨h1,h2⟩,h3,h4,h5⟩;refine ⟨?_,?_,?_⟩
   ·intro y hy;rcases List.mem_cons.1 hy with rfl|hy
    ·exact h1
    ·exact h3 y hy
   ·rw [List.map_cons];refine List.pairwise_cons.2 ⟨?_,h4⟩;intro p hp;obtain ⟨y,hy,rfl⟩:=List.mem_map.1 hp;exact h5 _ rfl y hy
   ·intro p hp y hy;rcases List.mem_cons.1 hy with rfl|hy
    ·exact h2 p hp
    ·exact cL (h2 p hp) (h5 _ rfl y hy)
  ·rintro ⟨h1,h2,h3⟩;rw [List.map_cons] at h2;obtain ⟨h4,h5⟩:=List.pairwise_cons.1 h2;refine ⟨⟨h1 x (by simp),fun p hp=>h3 p hp x (by simp)⟩,fun y hy=>h1 y (by simp [hy]),h5,?_⟩;intro p hp y hy;injection hp with hp;subst hp;exact h4 _ (List.mem_map.2 ⟨y,hy,rfl⟩)
theorem rH {p:Pr}:∀{l:List Pc} {k:Nat},db p k l<0↔∀x∈l,x.proc≠p
 | [],k=>by simp [db]
 | x :: l,k=>by
  unfold db;by_cases hx:x.proc=p
  ·rw [decide_eq_true hx,cond_true];constructor
   ·intro h;omega
   ·intro h;exact absurd hx (h x (by simp))
  ·rw [decide_eq_false hx,cond_false,rH];constructor
   ·intro h y hy;rcases List.mem_cons.1 hy with rfl|hy
    ·exact hx
    ·exact h y hy
   ·intro h y hy;exact h y (by simp [hy])
theorem jd {p:Pr}:∀{l:List Pc} {k:Nat},0≤db p k l→∃i,∃h:i<l.length,db p k l=((k+i:Nat):Int)∧l[i].proc=p
 | [],k,h=>by simp [db] at h
 | x :: l,k,h=>by
  have e:db p k (x :: l)=bif decide (x.proc=p) then (k:Int) else db p (k+1) l:=rfl;rw [e] at h ⊢;by_cases hx:x.proc=p
  ·exact ⟨0,by simp,by rw [decide_eq_true hx];simp,hx⟩
  ·rw [decide_eq_false hx,cond_false] at h ⊢;obtain ⟨i,hi,h1,h2⟩:=jd h;exact ⟨i+1,by simpa using hi,by rw [h1];omega,by simpa using h2⟩
theorem DX {p:Pr} {l:List Pc} {k:Nat}:0≤db p k l↔p∈l.map (·.proc):=by
 constructor
 ·intro h;obtain ⟨i,hi,_,e⟩:=jd h;exact List.mem_map.2 ⟨_,List.getElem_mem hi,e⟩
 ·intro h;obtain ⟨x,hx,e⟩:=List.mem_map.1 h;refine Classical.byContradiction fun hn=>?_;exact rH.1 (show db p k l<0 by omega) x hx e
theorem fJ {c:Cs}:gx c=true↔CI c∧∀x∈c.procs,tY c x:=by
 unfold gx;simp only [Bool.and_eq_true,decide_eq_true_eq,List.all_eq_true,xD,DX];constructor
 ·rintro ⟨⟨⟨⟨⟨h1,h2⟩,h3⟩,h4⟩,h5⟩,h6,h7,_⟩;exact ⟨⟨⟨h1,h2⟩,h3,h4,h7,h5,fun x hx=>((oS h3).1 (h6 x hx)).1⟩,fun x hx=>((oS h3).1 (h6 x hx)).2⟩
 ·rintro ⟨⟨h1,h3,h4,h7,h5,h6⟩,h8⟩;exact ⟨⟨⟨⟨⟨h1.1,h1.2⟩,h3⟩,h4⟩,h5⟩,fun x hx=>(oS h3).2 ⟨h6 x hx,h8 x hx⟩,h7,fun p hp=>by cases hp⟩
theorem mf (x:Pc):∀l:List Pc,(j6 x l).Perm (x :: l)
 | []=>List.Perm.refl _
 | y :: l=>by
  show (bif decide (0<bE y.proc x.proc) then x :: y :: l else y :: j6 x l).Perm _;cases decide (0<bE y.proc x.proc) with
  | true=>exact List.Perm.refl _
  | false=>exact ((mf x l).cons y).trans (List.Perm.swap x y l)
theorem xE {x:Pc}:∀{l:List Pc},(l.map (·.proc)).Pairwise fT→(∀y∈l,y.proc≠x.proc)→((j6 x l).map (·.proc)).Pairwise fT
 | [],_,_=>by simp [j6]
 | y :: l,h,hn=>by
  rw [List.map_cons] at h;obtain ⟨h1,h2⟩:=List.pairwise_cons.1 h;have hyx:=hn y (by simp);show ((bif decide (0<bE y.proc x.proc) then x :: y :: l else y :: j6 x l).map (·.proc)).Pairwise fT;by_cases hc:0<bE y.proc x.proc
  ·rw [decide_eq_true hc,cond_true,List.map_cons,List.map_cons];have hlt:fT x.proc y.proc:=by
    rcases gN x.proc y.proc with h3|h3|h3
    ·exact h3
    ·exact absurd h3.symm hyx
    ·have:=(gO _ _).2 h3;omega
   refine List.pairwise_cons.2 ⟨?_,List.pairwise_cons.2 ⟨h1,h2⟩⟩;intro z hz;rcases List.mem_cons.1 hz with rfl|hz
   ·exact hlt
   ·exact cL hlt (h1 z hz)
  ·rw [decide_eq_false hc,cond_false,List.map_cons];have hlt:fT y.proc x.proc:=by
    rcases dd y.proc x.proc with ⟨h5,_⟩|⟨h5,_⟩|⟨_,h6⟩
    ·exact h5
    ·exact absurd h5 hyx
    ·omega
   refine List.pairwise_cons.2 ⟨?_,xE h2 fun z hz=>hn z (by simp [hz])⟩;intro z hz;obtain ⟨u,hu,rfl⟩:=List.mem_map.1 hz;rcases List.mem_cons.1 ((mf x l).mem_iff.1 hu) with rfl|hu
   ·exact hlt
   ·exact h1 _ (List.mem_map.2 ⟨u,hu,rfl⟩)
theorem Gk {t:List Qu} (hv:du t=true) {p:Pr} (hp:p ∉ aC t) {n:ByteArray} (hn:aW t n=true):ao (be t n).holds p=⟨0,0⟩∧ap (be t n) p=none:=by
 obtain ⟨hm,_⟩:=dL hn;have h1:eF (be t n) p=false:=by
  cases hh:eF (be t n) p with
  | false=>rfl
  | true =>
   refine absurd ?_ hp;unfold aC;rw [cN,gu];exact ⟨_,hm,(dY (aJ (ct hv hm)) p).2 hh⟩
 unfold eF at h1;rw [Bool.or_eq_false_iff,nX,Bool.not_eq_false'] at h1;exact ⟨of_decide_eq_true h1.2,h1.1⟩
theorem Gl:Ld Lg.zero:=⟨by simp [Lg.zero],fun k hk=>absurd hk (by simp [Lg.zero]),by simp [Lg.zero,bB,dx],fun x hx=>absurd hx (by simp [Lg.zero]),by simp [Lg.zero],by simp [Lg.zero]⟩
theorem Gm {w:Wk} {p:Pr} {cost:Int} (h:CI w.c) (he:(i4 w p cost).2=0) :
  CI (i4 w p cost).1.c∧(i4 w p cost).1.c.queues=w.c.queues∧(i4 w p cost).1.c.now=w.c.now∧(i4 w p cost).1.c.procs=j6 { B7 with proc:=p,cost:=cost } w.c.procs:=by
 unfold i4 at he ⊢;cases hA:jl p && decide (1≤cost) && decide (cost≤1000) with
 | false=>rw [hA] at he;simp at he
 | true =>
  rw [hA] at he;simp only [Bool.not_true,cond_false] at he ⊢;simp only [Bool.and_eq_true,decide_eq_true_eq] at hA;by_cases hI:0≤db p 0 w.c.procs
  ·rw [decide_eq_true hI] at he;simp at he
  ·rw [decide_eq_false hI] at he ⊢;simp only [cond_false] at he ⊢;by_cases hL:w.c.procs.length=8
   ·rw [decide_eq_true hL] at he;simp at he
   ·rw [decide_eq_false hL];simp only [cond_false];have hno:=(rH (k:=0)).1 (show db p 0 w.c.procs<0 by omega);have hnp:p ∉ aC w.c.queues:=fun hm=>by
     obtain ⟨x,hx,e⟩:=List.mem_map.1 (h.cov p hm);exact hno x hx e
    have hperm:=mf { B7 with proc:=p,cost:=cost } w.c.procs;refine ⟨⟨h.now,h.tv,?_,xE h.asc fun y hy=>hno y hy,fun r hr=>?_,fun x hx=>?_⟩,by trivial,by trivial,by trivial⟩
    ·have e1:=hperm.length_eq;rw [List.length_cons] at e1;have e2:=h.len;show (j6 { B7 with proc:=p,cost:=cost } w.c.procs).length≤8;rw [e1];omega
    ·obtain ⟨x,hx,e⟩:=List.mem_map.1 (h.cov r hr);exact List.mem_map.2 ⟨x,hperm.mem_iff.2 (by simp [hx]),e⟩
    ·rcases List.mem_cons.1 (hperm.mem_iff.1 hx) with rfl|hx
     ·refine ⟨⟨hA.1.1,⟨hA.1.2,hA.2⟩,Gl,by simp [B7],fun n hn=>absurd rfl hn⟩,fun _=>⟨rfl,rfl,fun n hn=>?_⟩,fun hw=>by cases hw⟩;obtain ⟨k1,k2⟩:=Gk h.tv hnp hn;exact ⟨k1,k2⟩
     ·exact h.inv x hx
def DY (now:Int) (x:Pc):Prop:=x.waiting=true∧x.req.limit≠0∧x.since+x.req.limit≤now
theorem m5 (now:Int):∀(l:List Pc) (k:Nat) (b:Int×Int),
  ((ik now k l b).1<0→b.1<0∧∀x∈l,¬DY now x)∧(0≤(ik now k l b).1→ik now k l b=b∨∃j,∃h:j<l.length,(ik now k l b).1=((k+j:Nat):Int)∧DY now l[j])
 | [],k,b=>by
  constructor
  ·intro h;exact ⟨h,fun x hx=>absurd hx (by simp)⟩
  ·intro _;exact .inl rfl
 | x :: l,k,b=>by
  have e:ik now k (x :: l) b=ik now (k+1) l (bif x.waiting && !decide (x.req.limit=0) && decide (x.since+x.req.limit≤now) && (decide (b.1<0) || decide (x.since+x.req.limit<b.2)) then ((k:Int),x.since+x.req.limit) else b):=rfl;rw [e];cases hc:x.waiting && !decide (x.req.limit=0) && decide (x.since+x.req.limit≤now) && (decide (b.1<0) || decide (x.since+x.req.limit<b.2)) with
  | true =>
   rw [cond_true];obtain ⟨h1,h2⟩:=m5 now l (k+1) ((k:Int),x.since+x.req.limit);simp only [Bool.and_eq_true,decide_eq_true_eq,Bool.not_eq_true',decide_eq_false_iff_not] at hc;constructor
   ·intro h;have:=(h1 h).1;simp only at this;omega
   ·intro h;rcases h2 h with h3|⟨j,hj,h3,h4⟩
    ·exact .inr ⟨0,by simp,by rw [h3];simp,⟨hc.1.1.1,hc.1.1.2,hc.1.2⟩⟩
    ·exact .inr ⟨j+1,by simpa using hj,by rw [h3];omega,by simpa using h4⟩
  | false =>
   rw [cond_false];obtain ⟨h1,h2⟩:=m5 now l (k+1) b;constructor
   ·intro h;obtain ⟨h3,h4⟩:=h1 h;refine ⟨h3,fun y hy=>?_⟩;rcases List.mem_cons.1 hy with rfl|hy
    ·rintro ⟨k1,k2,k3⟩;rw [k1,decide_eq_false k2,decide_eq_true k3,decide_eq_true h3] at hc;cases hc
    ·exact h4 y hy
   ·intro h;rcases h2 h with h3|⟨j,hj,h3,h4⟩
    ·exact .inl h3
    ·exact .inr ⟨j+1,by simpa using hj,by rw [h3];omega,by simpa using h4⟩
theorem mg (w:Wk):(eb w<0→∀x∈w.c.procs,¬DY w.c.now x)∧(0≤eb w→∃h:(eb w).toNat<w.c.procs.length,DY w.c.now w.c.procs[(eb w).toNat]):=by
 obtain ⟨h1,h2⟩:=m5 w.c.now w.c.procs 0 (-1,0);constructor
 ·intro h;exact (h1 h).2
 ·intro h;have h':0≤(ik w.c.now 0 w.c.procs (-1,0)).1:=h;rcases h2 h with h3|⟨j,hj,h3,h4⟩
  ·rw [h3] at h';simp at h'
  ·have e:(eb w).toNat=j:=by unfold eb;rw [h3];omega
   exact ⟨by rw [e];exact hj,by simp only [e];exact h4⟩
theorem DZ {c:Cs} {x:Pc} (h1:¬DY c.now x) (h2:dA c.queues x=false):tY c x:=fun hw=>by
 refine ⟨?_,h2⟩;by_cases h0:x.req.limit=0
 ·exact .inl h0
 ·right
  refine Classical.byContradiction fun hn=>h1 ⟨hw,h0,by omega⟩
theorem xF:∀(n:Nat) (w:Wk),CI w.c→(∀x∈w.c.procs,dA w.c.queues x=false)→cJ w.c.procs≤n→CI (gL n w).c∧(∀x∈(gL n w).c.procs,tY (gL n w).c x)∧(gL n w).c.now=w.c.now∧KW w.c.procs (gL n w).c.procs∧(gL n w).c.procs.map (·.proc)=w.c.procs.map (·.proc)
 | 0,w,h,hs,hn=>by
  refine ⟨h,fun x hx hw=>?_,rfl,KW.refl _,rfl⟩;have hx':x∈w.c.procs:=hx;obtain ⟨i,hi,e⟩:=List.mem_iff_getElem.1 hx';have:0<cJ w.c.procs:=g9 hi (by rw [e];exact hw);have hn':cJ w.c.procs≤0:=hn;omega
 | n+1,w,h,hs,hn=>by
  obtain ⟨s1,s2⟩:=mg w;unfold gL;by_cases he:eb w<0
  ·rw [decide_eq_true he];exact ⟨h,fun x hx=>DZ (s1 he x hx) (hs x hx),rfl,KW.refl _,rfl⟩
  ·rw [decide_eq_false he,cond_false];obtain ⟨hi,hl1,hl2,hl3⟩:=s2 (by omega);generalize (eb w).toNat=i at *
   have hc0:CI (w.note 4 (w.pc i).proc).c:=h;have hw0:((w.note 4 (w.pc i).proc).pc i).waiting=true:=by rw [bU (w:=w.note 4 (w.pc i).proc) hi];exact hl1
   obtain ⟨k1,k2,k3,k4,_⟩:=dV hc0 hi hw0;have hi2:i<(az (w.note 4 (w.pc i).proc) i).c.procs.length:=by rw [k3.len];exact hi
   have hrun:((az (w.note 4 (w.pc i).proc) i).pc i).waiting=false:=by rw [bU hi2];simp [k4]
   obtain ⟨n1,n2,n3⟩:=iI k1 hi2 hrun;obtain ⟨q1,q2,q3,q4,q5,q6,_⟩:=i9 n1;have k2':cJ (az (w.note 4 (w.pc i).proc) i).c.procs+1=cJ w.c.procs:=k2;obtain ⟨r1,r2,r3,r4,r5⟩:=xF n (bS (aU (az (w.note 4 (w.pc i).proc) i) i)) q1 q2 (by omega);refine ⟨r1,r2,?_,?_,?_⟩
   ·exact r3.trans (q4.trans (n2.now.trans k3.now))
   ·exact (k3.kw.trans n2.kw).trans (q6.trans r4)
   ·exact r5.trans (q3.trans (n2.pr.trans k3.pr))
theorem CI.later {c:Cs} (h:CI c) {n:Int} (h0:0≤n) (hm:c.now+n≤1073741824):CI { c with now:=c.now+n } :=
 ⟨by have:=h.now;show 0≤c.now+n∧c.now+n≤1073741824;omega,h.tv,h.len,h.asc,h.cov,fun x hx=>by
  have k:=h.inv x hx;exact ⟨k.stat,k.run,fun hw=>by
   obtain ⟨k1,k2⟩:=k.wat hw;exact ⟨⟨k1.rq,k1.rs,by have:=k1.sn;show 0≤x.since∧x.since≤c.now+n;omega⟩,k2⟩⟩⟩
theorem mh {c:Cs} {x:Pc} (h:tY c x):dA c.queues x=false:=by
 cases hw:x.waiting with
 | true=>exact (h hw).2
 | false=>unfold dA;rw [hw];rfl
theorem Gn {w:Wk} {n:Int} (h:CI w.c) (hs:∀x∈w.c.procs,dA w.c.queues x=false) (he:(iF w n).2=0):CI (iF w n).1.c∧(∀x∈(iF w n).1.c.procs,tY (iF w n).1.c x)∧(iF w n).1.c.now=w.c.now+n∧KW w.c.procs (iF w n).1.c.procs∧(iF w n).1.c.procs.map (·.proc)=w.c.procs.map (·.proc):=by
 unfold iF at he ⊢;cases hA:decide (0≤n) && decide (n≤1000) with
 | false=>rw [hA] at he;simp at he
 | true =>
  rw [hA] at he;simp only [Bool.not_true,cond_false] at he ⊢;simp only [Bool.and_eq_true,decide_eq_true_eq] at hA;by_cases hm:1073741824-n<w.c.now
  ·rw [decide_eq_true hm] at he;simp at he
  ·rw [decide_eq_false hm];simp only [cond_false];exact xF _ ⟨{ w.c with now:=w.c.now+n },w.ev⟩ (h.later hA.1 (by omega)) hs (i8 _)
theorem cF {α:Type} {b:Bool} {x y:α} (h:b=false):(bif b then x else y)=y:=by rw [h];rfl
theorem cT {α:Type} {b:Bool} {x y:α} (h:b=true):(bif b then x else y)=x:=by rw [h];rfl
theorem J5 {c:Cs} {k:Cm} (h:gx c=true) (he:(zK ⟨c,[]⟩ k).2=0):gx (zK ⟨c,[]⟩ k).1.c=true:=by
 obtain ⟨hci,hun⟩:=fJ.1 h;have fin:∀w:Wk,CI w.c→(∀x∈w.c.procs,dA w.c.queues x=false)→KW c.procs w.c.procs→w.c.now=c.now→gx w.c=true:=by
  intro w h1 h2 h3 h4;refine fJ.2 ⟨h1,fun x hx hw=>⟨?_,h2 x hx⟩⟩;have h5:=h3 x hx hw;rw [h4];exact (hun x h5 hw).1
 unfold zK at he ⊢;cases hA:decide (1≤k.kind) && decide (k.kind≤9) with
 | false=>rw [hA] at he;simp at he
 | true =>
  rw [hA] at he;simp only [Bool.not_true,cond_false] at he ⊢;by_cases h1:k.kind=1
  ·rw [decide_eq_true h1] at he ⊢;simp only [cond_true] at he ⊢;obtain ⟨k1,k2,k3,k4⟩:=Gm hci he;have hperm:=mf { B7 with proc:=k.proc,cost:=k.n } c.procs;refine fJ.2 ⟨k1,fun x hx hw=>?_⟩;rw [k4] at hx;rcases List.mem_cons.1 (hperm.mem_iff.1 hx) with rfl|hx
   ·cases hw
   ·have:=hun x hx hw;rw [k2,k3];exact this
  ·rw [decide_eq_false h1] at he ⊢;simp only [cond_false] at he ⊢;by_cases h9:k.kind=9
   ·rw [decide_eq_true h9] at he ⊢;simp only [cond_true] at he ⊢;obtain ⟨k1,k2,_⟩:=Gn hci (fun x hx=>mh (hun x hx)) he;exact fJ.2 ⟨k1,k2⟩
   ·rw [decide_eq_false h9] at he ⊢;simp only [cond_false] at he ⊢;by_cases hI:db k.proc 0 c.procs<0
    ·rw [decide_eq_true hI] at he;simp at he
    ·rw [decide_eq_false hI] at he ⊢;simp only [cond_false] at he ⊢;obtain ⟨i,hi,e,_⟩:=jd (p:=k.proc) (l:=c.procs) (k:=0) (by omega);have ei:(db k.proc 0 c.procs).toNat=i:=by rw [e];omega
     rw [ei] at he ⊢;by_cases h2:k.kind=2
     ·rw [decide_eq_true h2] at he ⊢;simp only [cond_true] at he ⊢;have hrq:oG k.req=true:=by
       cases hq:oG k.req with
       | true=>rfl
       | false =>
        exfalso;unfold cG at he;rw [hq] at he;cases hw:(Wk.pc ⟨c,[]⟩ i).waiting <;> rw [hw] at he <;> simp at he
      obtain ⟨k1,k2,k3,_,k5,_⟩:=yT hci hi he;refine fJ.2 ⟨k1,fun x hx hw=>⟨?_,k2 x hx⟩⟩;rw [k3];rcases k5 x hx hw with h5|h5
      ·exact (hun x h5 hw).1
      ·rw [h5];unfold oG at hrq;simp only [Bool.and_eq_true,decide_eq_true_eq] at hrq;show k.req.limit=0∨c.now<c.now+k.req.limit;omega
     ·rw [decide_eq_false h2] at he ⊢;simp only [cond_false] at he ⊢;by_cases h3:k.kind=3
      ·rw [decide_eq_true h3] at he ⊢;simp only [cond_true] at he ⊢;cases hw:(Wk.pc ⟨c,[]⟩ i).waiting with
       | false=>rw [hw] at he;simp at he
       | true =>
        simp only [Bool.not_true,cond_false];obtain ⟨k1,_,k3,k4,_⟩:=dV hci hi hw;have hi2:i<(az ⟨c,[]⟩ i).c.procs.length:=by rw [k3.len];exact hi
        obtain ⟨n1,n2,_⟩:=iI k1 hi2 (by rw [bU hi2];simp [k4]);obtain ⟨q1,q2,q3⟩:=ja n1;have hk:=(k3.trans n2).trans q3;exact fin _ q1 q2 hk.kw hk.now
      ·rw [decide_eq_false h3] at he ⊢;simp only [cond_false] at he ⊢;by_cases h4:k.kind=4
       ·rw [decide_eq_true h4] at he ⊢;simp only [cond_true] at he ⊢;obtain ⟨q1,q2,hk,_⟩:=yU hci hi he;exact fin _ q1 q2 hk.kw hk.now
       ·rw [decide_eq_false h4] at he ⊢;simp only [cond_false] at he ⊢;by_cases h5:k.kind=5
        ·rw [decide_eq_true h5] at he ⊢;simp only [cond_true] at he ⊢;rcases Bool.eq_false_or_eq_true (Wk.pc ⟨c,[]⟩ i).waiting with hw|hw
         ·rw [cT hw] at he;simp at he
         ·rw [cF hw] at he ⊢;by_cases hs:(dP (Wk.pc ⟨c,[]⟩ i).led k.n).2=0
          ·rw [decide_eq_true hs];simp only [Bool.not_true,cond_false];obtain ⟨hld,hse,hld2⟩:=FQ hs;rw [hse];have hpc:=bU (w:=⟨c,[]⟩) hi;have hinv:=hci.inv _ (List.getElem_mem hi);rw [←hpc] at hinv;obtain ⟨hrq,hsn,hrun⟩:=hinv.run hw;have hpv:PInv c.queues c.now { Wk.pc ⟨c,[]⟩ i with led:=⟨(Wk.pc ⟨c,[]⟩ i).led.entries,(Wk.pc ⟨c,[]⟩ i).led.saves++[⟨k.n,(Wk.pc ⟨c,[]⟩ i).led.entries.length⟩]⟩ } :=
            ⟨⟨hinv.stat.vp,hinv.stat.cost,hld2,hinv.stat.gen,hinv.stat.hf⟩,fun _=>⟨hrq,hsn,fun n hn=>(hrun n hn).led rfl rfl⟩,fun hf=>by
             have:(Wk.pc ⟨c,[]⟩ i).waiting=true:=hf;rw [hw] at this;cases this⟩
           have hci2:=hci.upd (c':=(Wk.setP ⟨c,[]⟩ i { Wk.pc ⟨c,[]⟩ i with led:=⟨(Wk.pc ⟨c,[]⟩ i).led.entries,(Wk.pc ⟨c,[]⟩ i).led.saves++[⟨k.n,(Wk.pc ⟨c,[]⟩ i).led.entries.length⟩]⟩ }).c) hi rfl rfl (by rw [hpc]) (TP.refl hci.tv _) hpv;have hi2:i<(Wk.setP ⟨c,[]⟩ i { Wk.pc ⟨c,[]⟩ i with led:=⟨(Wk.pc ⟨c,[]⟩ i).led.entries,(Wk.pc ⟨c,[]⟩ i).led.saves++[⟨k.n,(Wk.pc ⟨c,[]⟩ i).led.entries.length⟩]⟩ }).c.procs.length:=by
            show i<(c.procs.set i _).length;simpa using hi
           obtain ⟨n1,n2,_⟩:=iI hci2 hi2 (by rw [fQ hi];exact hw);have hkw:KW c.procs (Wk.setP ⟨c,[]⟩ i { Wk.pc ⟨c,[]⟩ i with led:=⟨(Wk.pc ⟨c,[]⟩ i).led.entries,(Wk.pc ⟨c,[]⟩ i).led.saves++[⟨k.n,(Wk.pc ⟨c,[]⟩ i).led.entries.length⟩]⟩ }).c.procs:=KW.set hw;refine fin _ n1 (fun x hx=>?_) (hkw.trans n2.kw) n2.now;cases hxw:x.waiting with
           | false=>unfold dA;rw [hxw];rfl
           | true=>exact mh (hun x (hkw.trans n2.kw x hx hxw))
          ·rw [decide_eq_false hs] at he;simp only [Bool.not_false,cond_true] at he;exact absurd he hs
        ·rw [decide_eq_false h5] at he ⊢;simp only [cond_false] at he ⊢;by_cases h6:k.kind=6
         ·rw [decide_eq_true h6] at he ⊢;simp only [cond_true] at he ⊢;obtain ⟨q1,q2,hk,_⟩:=xz hci hi he;exact fin _ q1 q2 hk.kw hk.now
         ·rw [decide_eq_false h6] at he ⊢;simp only [cond_false] at he ⊢;cases h8:decide (k.kind=8) && (Wk.pc ⟨c,[]⟩ i).waiting with
          | true=>rw [h8] at he;simp at he
          | false =>
           simp only [cond_false];obtain ⟨q1,q2,q3,q4,_⟩:=Gd (w:=⟨c,[]⟩) hci hi;exact fin _ q1 q2 q3 q4
theorem IE {c:Cs} {k:Cm} (he:(nN c k).2.2=0):gx c=true∧gx (nN c k).1=true:=by
 unfold nN at he ⊢;cases hc:gx c with
 | false=>rw [hc] at he;simp at he
 | true =>
  rw [hc] at he;simp only [Bool.not_true,cond_false] at he ⊢;by_cases h0:(zK ⟨c,[]⟩ k).2=0
  ·rw [decide_eq_true h0];exact ⟨trivial,J5 hc h0⟩
  ·rw [decide_eq_false h0] at he;simp only [Bool.not_false,cond_true] at he;exact absurd he h0
end Go.Proofs.YtjndcdcbjidocaaGreatDoor
