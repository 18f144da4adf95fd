/- Part 15 of 33 of the proof of centralDoes_holds (no condition). -/
import Derived.Test.YtjndcdcbjidocaaGreatDoorL14
set_option linter.unusedVariables false
set_option linter.unusedSimpArgs false
set_option maxRecDepth 100000
set_option maxHeartbeats 64000000
namespace Go.Proofs.YtjndcdcbjidocaaGreatDoor
open Go.RowKit Go.Proofs.Tryz
theorem jP (w:Wk) (t:List Qu) (ev:List Ev):(w.take t ev).ev.length=w.ev.length+ev.length:=List.length_append
theorem D2 (w:Wk) (p:Pr) (n:ByteArray):(fd w p n).ev.length≤w.ev.length+17:=by
 unfold fd gR;cases (ap (be w.c.queues n) p).isSome with
 | false=>simp
 | true=>rw [cond_true,jP];have:=ly w.c.queues p n;omega
theorem nY (w:Wk) (p:Pr) (n:ByteArray) (l:Am):(bL w p n l).ev.length≤w.ev.length+18:=by
 unfold bL d5;cases decide (ao (be w.c.queues n).holds p=l) with
 | true=>simp
 | false=>rw [cond_false,jP];have:=fC w.c.queues p ⟨n,l⟩;omega
theorem je (w:Wk) (x:Pc) (n:ByteArray):(bo w x n).ev.length≤w.ev.length+35:=by
 unfold bo;have h1:=D2 w x.proc n;have h2:=nY (fd w x.proc n) x.proc n (ax x.led.entries n);omega
theorem tZ (x:Pc):∀(l:List Tm) (w:Wk),(cU x l w).ev.length≤w.ev.length+35*l.length
 | [],w=>by simp [cU]
 | a :: l,w=>by
  have h1:=je w x a.name;have h2:=tZ x l (bo w x a.name);show (cU x l (bo w x a.name)).ev.length≤_;rw [List.length_cons];omega
theorem Ac (w:Wk) (i:Nat) (p:Pr) (n:ByteArray):(gI w i p n).ev=w.ev:=by
 unfold gI;cases decide (ao (be w.c.queues n).holds p=ax (w.pc i).led.entries n) <;> rfl
theorem D3 (w:Wk) (i:Nat) (p:Pr) (n:ByteArray):(gI w i p n).c.procs.length=w.c.procs.length:=by
 unfold gI;cases decide (ao (be w.c.queues n).holds p=ax (w.pc i).led.entries n)
 ·exact gC _ _ _
 ·rfl
theorem nZ (x:Pc) (i:Nat):∀(l:List Tm) (bs:List Bool) (w:Wk),(cR x i l bs w).ev.length≤w.ev.length+35*l.length∧(cR x i l bs w).c.procs.length=w.c.procs.length
 | [],bs,w=>by cases bs <;> exact ⟨by simp [cR],rfl⟩
 | a :: l,[],w=>⟨by simp [cR],rfl⟩
 | a :: l,b :: bs,w=>by
  have h2:=nZ x i l bs (bif b then gI w i x.proc a.name else bo w x a.name);have h3:(bif b then gI w i x.proc a.name else bo w x a.name).ev.length≤w.ev.length+35∧(bif b then gI w i x.proc a.name else bo w x a.name).c.procs.length=w.c.procs.length:=by
   cases b with
   | true=>exact ⟨by rw [cond_true,Ac];omega,D3 _ _ _ _⟩
   | false=>exact ⟨je w x a.name,congrArg List.length (lC w x a.name)⟩
  show (cR x i l bs (bif b then gI w i x.proc a.name else bo w x a.name)).ev.length≤_∧(cR x i l bs (bif b then gI w i x.proc a.name else bo w x a.name)).c.procs.length=_;rw [List.length_cons];omega
theorem gU (w:Wk) (k:Int) (p:Pr):(w.note k p).ev.length=w.ev.length+1:=by unfold Wk.note;simp
theorem vu (w:Wk) (i:Nat):(gS w i).ev.length≤w.ev.length+281:=by
 have h1:=(nZ (w.pc i) i (cy (w.pc i).req.expr) (bX (w.pc i).req.expr (aZ w.c.queues (w.pc i).proc (w.pc i).req.expr)) (w.note 2 (w.pc i).proc)).1;rw [gU] at h1;have h2:=cd (w.pc i).req.expr;show (cR (w.pc i) i (cy (w.pc i).req.expr) (bX (w.pc i).req.expr (aZ w.c.queues (w.pc i).proc (w.pc i).req.expr)) (w.note 2 (w.pc i).proc)).ev.length≤_;omega
theorem rI:∀(n:Nat) (w:Wk),(aQ n w).ev.length≤w.ev.length+281*n
 | 0,w=>by simp [aQ]
 | n+1,w=>by
  unfold aQ;cases dI w.c.queues 0 w.c.procs with
  | none=>dsimp only;omega
  | some i =>
   have h1:=vu w i;have h2:=rI n (gS w i);dsimp only;omega
theorem eQ (w:Wk) (i:Nat):(az w i).ev.length≤w.ev.length+280:=by
 have h1:=tZ (w.pc i) (cy (w.pc i).req.expr) w;have h2:=cd (w.pc i).req.expr;show (cU (w.pc i) (cy (w.pc i).req.expr) w).ev.length≤_;omega
theorem m6 (p:Pr) (prio:Int):∀(l:List Tm) (w:Wk),(ck p prio l w).ev.length≤w.ev.length+18*l.length
 | [],w=>by simp [ck]
 | a :: l,w=>by
  have h1:=jO w.c.queues p a prio;have h2:=m6 p prio l (w.take (bd w.c.queues p a prio).1 (bd w.c.queues p a prio).2.1);rw [jP] at h2;show (ck p prio l (w.take (bd w.c.queues p a prio).1 (bd w.c.queues p a prio).2.1)).ev.length≤_;rw [List.length_cons];omega
theorem m7 (p:Pr):∀(l:List Tm) (w:Wk),(br p l w).ev.length≤w.ev.length+18*l.length
 | [],w=>by simp [br]
 | a :: l,w=>by
  have h1:=nY w p a.name a.am;have h2:=m7 p l (bL w p a.name a.am);show (br p l (bL w p a.name a.am)).ev.length≤_;rw [List.length_cons];omega
theorem DrT.ok {x:Pc}:∀{l:List Tm} {w:Wk},DrT x l w→w.ev.length+35*l.length≤900000→yP x l w
 | [],_,_,_=>trivial
 | a :: l,w,h,he=>by
  rw [List.length_cons] at he;have h1:=je w x a.name;exact ⟨h.1,h.2.1,by omega,h.2.2.ok (by omega)⟩
theorem FinT.ok {x:Pc} {i:Nat}:∀{l:List Tm} {bs:List Bool} {w:Wk},FinT x i l bs w→w.ev.length+35*l.length≤900000→zV x i l bs w
 | [],bs,_,_,_=>by cases bs <;> trivial
 | a :: l,[],_,_,_=>trivial
 | a :: l,b :: bs,w,h,he=>by
  rw [List.length_cons] at he;have h3:(bif b then gI w i x.proc a.name else bo w x a.name).ev.length≤w.ev.length+35:=by
   cases b with
   | true=>rw [cond_true,Ac];omega
   | false=>exact je w x a.name
  exact ⟨h.1,h.2.1,by omega,h.2.2.1,h.2.2.2.ok (by omega)⟩
theorem LwT.ok {p:Pr}:∀{l:List Tm} {w:Wk},LwT p l w→w.ev.length+18*l.length≤900000→vq p l w
 | [],_,_,_=>trivial
 | a :: l,w,h,he=>by
  rw [List.length_cons] at he;have h1:=nY w p a.name a.am;exact ⟨h.1,by omega,h.2.ok (by omega)⟩
theorem J6 {p:Pr} {prio:Int}:∀{l:List Tm} {w:Wk},w.ev.length+18*l.length≤900000→Gf p prio l w
 | [],_,_=>trivial
 | a :: l,w,he=>by
  rw [List.length_cons] at he;have h1:=jO w.c.queues p a prio;exact ⟨by omega,J6 (by rw [jP];omega)⟩
theorem J7:∀(n:Nat) (w:Wk),CI w.c→cJ w.c.procs≤n→w.ev.length+281*n≤800000→StOk n w
 | 0,w,h,hn,_=>by
  refine ⟨by have:=h.len;omega,?_⟩;cases hs:dI w.c.queues 0 w.c.procs with
  | none=>rfl
  | some i =>
   obtain ⟨j,hj,_,h2⟩:=gg hs;unfold dA at h2;rw [Bool.and_eq_true] at h2;have:=g9 hj h2.1;omega
 | n+1,w,h,hn,he=>by
  refine ⟨by have:=h.len;omega,by omega,fun i hs=>?_⟩;obtain ⟨j,hj,e,h2⟩:=gg hs;have e':i=j:=by omega
  subst e';have hwt:(w.pc i).waiting=true:=by
   rw [bU hj];unfold dA at h2;rw [Bool.and_eq_true] at h2;exact h2.1
  obtain ⟨k1,k2,_,_,_,_,_,_,k9⟩:=yQ h hj hwt;have h8:=cd (w.pc i).req.expr;have hfe:=vu w i;refine ⟨hj,?_,k9.ok (by rw [gU];omega),J7 n (gS w i) k1 (by omega) (by omega)⟩;show i<(cR (w.pc i) i (cy (w.pc i).req.expr) (bX (w.pc i).req.expr (aZ w.c.queues (w.pc i).proc (w.pc i).req.expr)) (w.note 2 (w.pc i).proc)).c.procs.length;rw [(nZ _ _ _ _ _).2];exact hj
theorem t1 {w:Wk} (h:CI w.c) (he:w.ev.length≤700000):StOk w.c.procs.length w:=J7 _ _ h (i8 _) (by have:=h.len;omega)
theorem t6 {w:Wk} (h:CI w.c):(aQ w.c.procs.length w).ev.length≤w.ev.length+2248:=by
 have:=rI w.c.procs.length w;have:=h.len;omega
theorem KB {c:Cs} (h:CI c):Jr c.procs:=fun x hx=>by
 have hi:=h.inv x hx;have hn:=h.now;cases hw:x.waiting with
 | false =>
  obtain ⟨h1,h2,_⟩:=hi.run hw;rw [h1,h2];simp [Rq.zero]
 | true =>
  obtain ⟨h1,_⟩:=hi.wat hw;have h2:=h1.rq;have h3:=h1.sn;unfold oG at h2;simp only [Bool.and_eq_true,decide_eq_true_eq] at h2;omega
theorem J8 {w:Wk} {i:Nat} {n:ByteArray} (h:CI w.c) (hi:i<w.c.procs.length) (he:w.ev.length≤600000):Hf w i n:=by
 refine ⟨hi,by omega,fun hw h0=>t1 (lB h hi hw h0).1 ?_⟩;have:=fC w.c.queues (w.pc i).proc ⟨n,⟨0,0⟩⟩;show (w.take (bJ w.c.queues (w.pc i).proc ⟨n,⟨0,0⟩⟩).1 (bJ w.c.queues (w.pc i).proc ⟨n,⟨0,0⟩⟩).2.1).ev.length≤_;rw [jP];omega
theorem BF {g:Lg} (h:Ld g) (n:Int):(cu g n).2.1.length≤1000:=by
 unfold cu;rw [fm.2 h,Bool.not_true,cond_false];cases (!decide (n=0) && decide (aT n 0 g.saves<0)) with
 | true=>simp
 | false =>
  rw [cond_false];dsimp only;rw [List.length_map];have:=oE (jF (fy (g.entries.drop (cc g n).entries.length))) (m:=bB g.entries) fun x hx=>by
   obtain ⟨e,he,hn⟩:=dh.1 hx;exact dh.2 ⟨e,List.mem_of_mem_drop he,hn⟩
  have:=h.nms;omega
theorem n4 (p:Pr):∀t:List Qu,(∀q∈t,aw q=true)→(aG p t).2.length≤18*t.length
 | [],_=>by simp [aG]
 | q :: l,h=>by
  have ih:=n4 p l fun x hx=>h x (by simp [hx]);have h1:=lr (h q (by simp)) p;have e:aG p (q :: l)=bif !eF q p then (q :: (aG p l).1,(aG p l).2) else
   ((a7 q p).1 :: (aG p l).1,(bif aH (ao q.holds p) then [] else [⟨3,p,q.res.name,⟨0,0⟩⟩])++aE (a7 q p).1.res.name (a7 q p).2.1++(aG p l).2):=rfl
  rw [e,List.length_cons];cases (!eF q p) with
  | true=>rw [cond_true];dsimp only;omega
  | false =>
   rw [cond_false];cases aH (ao q.holds p) <;> simp [gB] <;> omega
theorem pK (t:List Qu) (p:Pr):(bR t p).2.length≤144:=by
 unfold bR;cases hv:du t with
 | false=>simp
 | true =>
  have:=n4 p t fun q hq=>ct hv hq;have:=(bf hv).1;rw [Bool.not_true,cond_false];omega
theorem J9 {w:Wk} {i:Nat} {n:Int} (h:CI w.c) (hi:i<w.c.procs.length) (he:w.ev.length≤600000):Hg w i n:=by
 refine ⟨hi,fun hu=>?_⟩;obtain ⟨h1,h2,_⟩:=jM h hi hu;have h8:=cd (w.pc i).req.expr;have hA:(jb w i).ev.length≤w.ev.length+280:=by
  unfold jb;cases (w.pc i).waiting with
  | false=>rw [cond_false];omega
  | true=>exact eQ w i
 have hB:(pU w i n).ev.length≤w.ev.length+280:=hA;have hinv:=h.inv _ (List.getElem_mem hi);rw [←bU hi] at hinv;have hl:=BF hinv.stat.led n;have hS:(mr w i n).ev.length≤w.ev.length+280+18*(cu (w.pc i).led n).2.1.length:=by
  have:=m7 (w.pc i).proc (cu (w.pc i).led n).2.1 (pU w i n);show (br (w.pc i).proc (cu (w.pc i).led n).2.1 (pU w i n)).ev.length≤_;omega
 exact ⟨fun hw=>(jL h hi hw).ok (by omega),h1.ok (by omega),t1 h2 (by omega)⟩
theorem K7 {w:Wk} {i:Nat} {r:Rq} (h:CI w.c) (hi:i<w.c.procs.length) (he:w.ev.length≤600000):J1 w i r:=by
 have h8:=cd r.expr;refine ⟨hi,h.tv,by have:=(bf h.tv).1;omega,fun hw hq hr=>⟨J6 ?_,t1 (lA h hi hw hq hr).1 ?_⟩⟩
 ·show w.ev.length+_≤_;omega
 ·have:=m6 (w.pc i).proc r.prio (cy r.expr) (Gc w i r);have e:(Gc w i r).ev=w.ev:=rfl;rw [e] at this;show (ck (w.pc i).proc r.prio (cy r.expr) (Gc w i r)).ev.length≤_;omega
theorem K8 {w:Wk} {i:Nat} (h:CI w.c) (hi:i<w.c.procs.length) (he:w.ev.length≤600000):J2 w i:=by
 have hr:(bR w.c.queues (w.pc i).proc).2.length≤1000:=by have:=pK w.c.queues (w.pc i).proc;omega
 refine ⟨hi,by have:=h.len;omega,by omega,hr,t1 (rD h hi) ?_⟩;unfold DN;rw [gU];simp only [List.length_append];omega
theorem Ka:∀(n:Nat) (w:Wk),CI w.c→(∀x∈w.c.procs,dA w.c.queues x=false)→cJ w.c.procs≤n→w.ev.length+3000*n≤600000→TkOk n w
 | 0,w,h,hs,hn,he=>by
  refine ⟨by have:=h.len;omega,KB h,?_⟩;by_cases h0:eb w<0
  ·exact h0
  ·exfalso;obtain ⟨hi,hl,_⟩:=(mg w).2 (by omega);have:=g9 hi hl;omega
 | n+1,w,h,hs,hn,he=>by
  refine ⟨by have:=h.len;omega,KB h,fun h0=>?_⟩;obtain ⟨hi,hl1,hl2,hl3⟩:=(mg w).2 h0;have hts:Ge w=aU (az (w.note 4 (w.pc (eb w).toNat).proc) (eb w).toNat) (eb w).toNat:=rfl;rw [hts];clear hts;generalize (eb w).toNat=i at *
  have hc0:CI (w.note 4 (w.pc i).proc).c:=h;have hp0:(w.note 4 (w.pc i).proc).pc i=w.pc i:=rfl;have hw0:((w.note 4 (w.pc i).proc).pc i).waiting=true:=by rw [hp0,bU hi];exact hl1
  obtain ⟨k1,k2,k3,k4,_⟩:=dV hc0 hi hw0;have hdt:=jL hc0 hi hw0;have hev:=eQ (w.note 4 (w.pc i).proc) i;rw [gU] at hev;have hi2:i<(az (w.note 4 (w.pc i).proc) i).c.procs.length:=by rw [k3.len];exact hi
  have hrun:((az (w.note 4 (w.pc i).proc) i).pc i).waiting=false:=by rw [bU hi2];simp [k4]
  obtain ⟨n1,n2,n3⟩:=iI k1 hi2 hrun;obtain ⟨q1,q2,q3,q4,q5,q6,_⟩:=i9 n1;have k2':cJ (az (w.note 4 (w.pc i).proc) i).c.procs+1=cJ w.c.procs:=k2;have he2:(aU (az (w.note 4 (w.pc i).proc) i) i).ev.length≤w.ev.length+281:=by
   show (az (w.note 4 (w.pc i).proc) i).ev.length≤_;omega
  have he3:=t6 n1;have h8:=cd (w.pc i).req.expr;refine ⟨by omega,hi,?_,t1 n1 (by omega),Ka n _ q1 q2 ?_ ?_⟩
  ·rw [←hp0];exact hdt.ok (by rw [gU,hp0];omega)
  ·show cJ (bS (aU (az (w.note 4 (w.pc i).proc) i) i)).c.procs≤n;omega
  ·show (aQ _ (aU (az (w.note 4 (w.pc i).proc) i) i)).ev.length+_≤_;omega
theorem Kb {c:Cs} (h:CI c) (p:Pr):ID p c.procs:=fun i j hi hj hij hk=>by
 by_cases e:i=j
 ·subst e;exact hk
 ·have ha:=List.pairwise_iff_getElem.1 h.asc i j (by simpa using hi) (by simpa using hj) (by omega);simp only [List.getElem_map] at ha;rcases dd c.procs[i].proc p with ⟨_,k1⟩|⟨_,k1⟩|⟨k0,_⟩
  ·omega
  ·omega
  ·rcases dd c.procs[j].proc p with ⟨k2,_⟩|⟨k2,_⟩|⟨_,k3⟩
   ·exact absurd (cL (cL k0 ha) k2) (bH _)
   ·exact absurd (k2▸cL k0 ha) (bH _)
   ·omega
def Cm.d (d:Nat) (k:Cm):List D:=[.sc (.int .i64 k.kind),.sc (.int .i64 k.proc.site),.sc (.int .i64 k.proc.inc),.sc (.int .i64 k.proc.num),.sc (.int .i64 k.req.expr.k),.sc (.string k.req.expr.atom.name),.sc (.int .i64 k.req.expr.atom.am.mode),.sc (.int .i64 k.req.expr.atom.am.units),.sl (nc d) k.req.expr.kids,.sc (.int .i64 k.req.prio),.sc (.int .i64 k.req.limit),.sc (.string k.name),.sc (.int .i64 k.n)]
def Cm.a (d:Nat) (k:Cm):V0:=.ag (k.d d)
theorem K9 (d:Nat) (w:Wk) (k:Cm) (h:CI w.c) (hs:∀x∈w.c.procs,dA w.c.queues x=false) (he:w.ev.length≤1000) {Z:Wk×Int} (hZ:zK w k=Z):FSpec prog 36 [gA,k.a d] (HI d w) [3,4] (.i Z.2) (HO d Z.1):=by
 refine aP func36 ?_;obtain ⟨kd,p,r,nm,n⟩:=k;unfold zK at hZ;dsimp only at hZ;have h8:w.c.procs.length≤100000:=by have:=h.len;omega
 by_cases hA:1≤kd∧kd≤9
 case neg =>
  rw [show (decide (1≤kd) && decide (kd≤9))=false by rw [Bool.and_eq_false_iff];simp;omega] at hZ;obtain rfl:Z=(w,1):=hZ.symm;by_cases hA1:1≤kd
  ·repeat' (first|refine af ?_ ?_|refine ae ?_|exact ah|refine ab fun hb=>?_|(refine bP (qf [(3,1),(4,2)]) ?_;exact aj))
  ·repeat' (first|refine af ?_ ?_|refine ae ?_|exact ah|refine ab fun hb=>?_|(refine bP (qf [(3,1),(4,2)]) ?_;exact aj))
 obtain ⟨hA1,hA2⟩:=hA;rw [decide_eq_true hA1,decide_eq_true hA2,Bool.and_self,Bool.not_true,cond_false] at hZ;by_cases h1:kd=1
 ·subst h1;have hZ:i4 w p n=Z:=hZ;have kO:=J4 d w p n h8 (Kb h p) hZ;repeat' (first|refine af ?_ ?_|refine aa 9 rfl (cH (qf [(1,1),(2,2),(3,1003),(4,1004)]) (kO) ?_)|refine ae ?_|exact ah|refine ab fun hb=>?_|(refine bP (qf [(3,1003),(4,1004)]) ?_;exact aj))
 rw [decide_eq_false h1,cond_false] at hZ;by_cases h9:kd=9
 ·subst h9;have hZ:iF w n=Z:=hZ;have kT:=JX d w n (by have:=h.now;omega) (fun a1 a2 a3=>Ka _ _ (h.later a1 (by omega)) hs (i8 _) (by show w.ev.length+_≤_;have:=h.len;omega)) hZ;repeat' (first|refine af ?_ ?_|refine aa 9 rfl (cH (qf [(1,1),(2,2),(3,1003),(4,1004)]) (kT) ?_)|refine ae ?_|exact ah|refine ab fun hb=>?_|(refine bP (qf [(3,1003),(4,1004)]) ?_;exact aj))
 rw [decide_eq_false h9,cond_false] at hZ;by_cases hI:db p 0 w.c.procs<0
 ·rw [decide_eq_true hI,cond_true] at hZ;obtain rfl:Z=(w,10):=hZ.symm;have kI:=xC w.c.procs d p;repeat' (first|refine af ?_ ?_|refine aa 9 rfl (cB [1] (kI) ?_)|refine ae ?_|exact ah|refine ab fun hb=>?_|(refine bP (qf [(3,1),(4,2)]) ?_;exact aj))
 rw [decide_eq_false hI,cond_false] at hZ;obtain ⟨i,hi,ei,_⟩:=jd (p:=p) (l:=w.c.procs) (k:=0) (by omega);rw [Nat.zero_add] at ei;have kI:=vt w.c.procs d p ei;rw [ei,Int.toNat_natCast] at hZ;clear hI ei;obtain ⟨x,hx⟩:∃x,w.c.procs[i]? = some x:=⟨_,List.getElem?_eq_getElem hi⟩;have hpc:=dJ hx;by_cases h2:kd=2
 ·subst h2;have hZ:cG w i r=Z:=hZ;have kT:=DT d w i r (K7 h hi (by omega)) hZ;repeat' (first|refine af ?_ ?_|(refine aa 9 rfl ?_;first|(refine cB [1] (kI) ?_)|(refine cH (qf [(1,1),(2,2),(3,1003),(4,1004)]) (kT) ?_))|refine ae ?_|exact ah|refine ab fun hb=>?_|(refine bP (qf [(3,1003),(4,1004)]) ?_;exact aj))
 rw [decide_eq_false h2,cond_false] at hZ;by_cases h3:kd=3
 ·subst h3;rw [hpc] at hZ;cases hw:x.waiting with
  | false =>
   rw [hw] at hZ;obtain rfl:Z=(w,14):=hZ.symm;repeat' (first|refine af ?_ ?_|refine aa 9 rfl (cB [1] (kI) ?_)|refine ae ?_|exact ah|(refine ab fun hb=>?_;first|(cases hw.symm.trans hb;done)|skip)|(refine bP (qf [(3,1),(4,2)]) ?_;exact aj))
  | true =>
   rw [hw] at hZ;have hw2:(w.pc i).waiting=true:=by rw [hpc];exact hw
   obtain ⟨k1,k2,k3,k4,_⟩:=dV h hi hw2;have hi2:i<(az w i).c.procs.length:=by rw [k3.len];exact hi
   obtain ⟨n1,n2,_⟩:=iI k1 hi2 (by rw [bU hi2];simp [k4]);have h9:=eQ w i;have h88:=cd (w.pc i).req.expr;have kW:=oL d w i hi ((jL h hi hw2).ok (by omega)) (by rw [cV];exact hi);have kX:=mY d (az w i) i hi2;have kS:=mb d _ _ (t1 n1 (by show (az w i).ev.length≤_;omega));have hZ:(aQ (aU (az w i) i).c.procs.length (aU (az w i) i),(0:Int))=Z:=hZ;obtain ⟨A,hA⟩:∃A,az w i=A:=⟨_,rfl⟩;rw [hA] at kW kX kS hZ;obtain ⟨B,hB⟩:∃B,aU A i=B:=⟨_,rfl⟩;rw [hB] at kX kS hZ;obtain ⟨F,hF⟩:∃F,aQ B.c.procs.length B=F:=⟨_,rfl⟩;rw [hF] at kS hZ;obtain rfl:Z=(F,0):=hZ.symm;repeat' (first|refine af ?_ ?_|(refine aa 9 rfl ?_;first|(refine cB [1] (kI) ?_)|(refine cH (qf [(1,1),(2,2),(3,1003),(4,1004)]) (kW) ?_)|(refine cH (qf [(1,1003),(2,1004),(3,1005),(4,1006)]) (kX) ?_)|(refine cH (qf [(1,1005),(2,1006),(3,1007),(4,1008)]) (kS) ?_))|refine ae ?_|exact ah|(refine ab fun hb=>?_;first|(cases hw.symm.trans hb;done)|skip)|(refine bP (qf [(3,1007),(4,1008)]) ?_;exact aj))
 rw [decide_eq_false h3,cond_false] at hZ;by_cases h4:kd=4
 ·subst h4;have hZ:dR w i nm=Z:=hZ;have kT:=DO d w i nm (J8 h hi (by omega)) hZ;repeat' (first|refine af ?_ ?_|(refine aa 9 rfl ?_;first|(refine cB [1] (kI) ?_)|(refine cH (qf [(1,1),(2,2),(3,1003),(4,1004)]) (kT) ?_))|refine ae ?_|exact ah|refine ab fun hb=>?_|(refine bP (qf [(3,1003),(4,1004)]) ?_;exact aj))
 rw [decide_eq_false h4,cond_false] at hZ;by_cases h5:kd=5
 ·subst h5;rw [hpc] at hZ;obtain ⟨G,hG⟩:∃G,dP x.led n=G:=⟨_,rfl⟩;have kL:=JT x.led n hG;have kX:=mY d (w.setP i { x with led:=G.1 }) i (by rw [gC];exact hi);obtain ⟨N,hN⟩:∃N,aU (w.setP i { x with led:=G.1 }) i=N:=⟨_,rfl⟩;have hZ:(bif x.waiting then (w,(14:Int)) else bif !decide (G.2=0) then (w,G.2) else (N,0))=Z:=by rw [←hZ,←hN,←hG];rfl
  rw [hN] at kX;cases hw:x.waiting with
  | true =>
   rw [hw] at hZ;obtain rfl:Z=(w,14):=hZ.symm;repeat' (first|refine af ?_ ?_|refine aa 9 rfl (cB [1] (kI) ?_)|refine ae ?_|exact ah|(refine ab fun hb=>?_;first|(cases hw.symm.trans hb;done)|skip)|(refine bP (qf [(3,1),(4,2)]) ?_;exact aj))
  | false =>
   rw [hw,cond_false] at hZ;by_cases h0:G.2=0
   case neg =>
    obtain rfl:Z=(w,G.2):=by rw [←hZ,decide_eq_false h0];rfl
    repeat' (first|refine af ?_ ?_|(refine aa 9 rfl ?_;first|(refine cB [1] (kI) ?_)|(refine cC [] (kL) ?_))|refine ae ?_|exact ah|(refine ab fun hb=>?_;first|(cases hw.symm.trans hb;done)|skip)|(refine bP (qf [(3,1),(4,2)]) ?_;exact aj))
   obtain rfl:Z=(N,0):=by rw [←hZ,decide_eq_true h0];rfl
   repeat' (first|refine af ?_ ?_|(refine aa 9 rfl ?_;first|(refine cB [1] (kI) ?_)|(refine cC [] (kL) ?_)|(refine cH (qf [(1,1),(2,2),(3,1003),(4,1004)]) (kX) ?_))|refine ae ?_|(refine aa 4 rfl ?_;refine aR (aq (z:={ x with led:=G.1 }) rfl rfl rfl rfl hx rfl rfl rfl rfl (Nat.le_of_ble_eq_true rfl) rfl rfl) rfl rfl rfl ?_)|exact ah|(refine ab fun hb=>?_;first|(cases hw.symm.trans hb;done)|skip)|(refine bP (qf [(3,1003),(4,1004)]) ?_;exact aj))
 rw [decide_eq_false h5,cond_false] at hZ;by_cases h6:kd=6
 ·subst h6;have hZ:cP w i n=Z:=hZ;have kT:=BC d w i n (J9 h hi (by omega)) hZ;repeat' (first|refine af ?_ ?_|(refine aa 9 rfl ?_;first|(refine cB [1] (kI) ?_)|(refine cH (qf [(1,1),(2,2),(3,1003),(4,1004)]) (kT) ?_))|refine ae ?_|exact ah|refine ab fun hb=>?_|(refine bP (qf [(3,1003),(4,1004)]) ?_;exact aj))
 rw [decide_eq_false h6,cond_false] at hZ;have kG:=J3 d w i (K8 h hi (by omega));by_cases h8b:kd=8
 ·subst h8b;rw [hpc] at hZ;cases hw:x.waiting with
  | true =>
   rw [hw] at hZ;obtain rfl:Z=(w,14):=hZ.symm;repeat' (first|refine af ?_ ?_|refine aa 9 rfl (cB [1] (kI) ?_)|refine ae ?_|exact ah|(refine ab fun hb=>?_;first|(cases hw.symm.trans hb;done)|skip)|(refine bP (qf [(3,1),(4,2)]) ?_;exact aj))
  | false =>
   rw [hw] at hZ;obtain ⟨F,hF⟩:∃F,gy w i=F:=⟨_,rfl⟩;rw [hF] at kG hZ;obtain rfl:Z=(F,0):=hZ.symm;repeat' (first|refine af ?_ ?_|(refine aa 9 rfl ?_;first|(refine cB [1] (kI) ?_)|(refine cH (qf [(1,1),(2,2),(3,1003),(4,1004)]) (kG) ?_))|refine ae ?_|exact ah|(refine ab fun hb=>?_;first|(cases hw.symm.trans hb;done)|skip)|(refine bP (qf [(3,1003),(4,1004)]) ?_;exact aj))
 ·rw [decide_eq_false h8b] at hZ;obtain rfl:kd=7:=by omega
  obtain ⟨F,hF⟩:∃F,gy w i=F:=⟨_,rfl⟩;rw [hF] at kG hZ;obtain rfl:Z=(F,0):=hZ.symm;repeat' (first|refine af ?_ ?_|(refine aa 9 rfl ?_;first|(refine cB [1] (kI) ?_)|(refine cH (qf [(1,1),(2,2),(3,1003),(4,1004)]) (kG) ?_))|refine ae ?_|exact ah|refine ab fun hb=>?_|(refine bP (qf [(3,1003),(4,1004)]) ?_;exact aj))
theorem pL (q:Qu) (x:Pc) (a:Tm) (l:List Tm):b7 q x (a :: l)=bif !ba a.name q.res.name || bg q.res (ax x.led.entries q.res.name) a.am then b7 q x l else
  bif !(ap q x.proc).isSome then decide (ao q.holds x.proc=bG q.res (ax x.led.entries q.res.name) a.am) else
  bif q.waits.any (fun y=>decide (y.proc=x.proc) && !decide (y.prio=x.req.prio)) then false else
  decide (ao q.holds x.proc=ax x.led.entries q.res.name) && decide (ap q x.proc=some (bG q.res (ax x.led.entries q.res.name) a.am)):=rfl
theorem Kc (d:Nat) (q:Qu) (x:Pc) (L:List Tm):FSpec prog 76 [q.a,x.a d,.one (.sl cw L)] [] [] (.b (b7 q x L)) []:=by
 refine aP func76 ?_;refine aM (fun c ρ a w hr=>bz (t:=2) hr rfl) (fun hl2=>?_);refine aM (fun c ρ a w hr=>dj (t:=0) (i:=6) hr rfl rfl) (fun hl0_6=>?_);obtain ⟨b,hB⟩:∃b,b7 q x L=b:=⟨_,rfl⟩;rw [hB];obtain ⟨l,hl⟩:∃l,ax x.led.entries q.res.name=l:=⟨_,rfl⟩;obtain ⟨h,hh⟩:∃h,ao q.holds x.proc=h:=⟨_,rfl⟩;have kH:=fg q x.proc;have kL:=jI x.led.entries q.res.name;rw [hh] at kH;rw [hl] at kL;obtain ⟨o,hw⟩:∃o,ap q x.proc=o:=⟨_,rfl⟩;have kW:=cl q x.proc hw;obtain ⟨iw,hiw⟩:∃iw,o.isSome=iw:=⟨_,rfl⟩;rw [hiw] at kW;cases iw with
 | false =>
  obtain rfl:o=none:=by cases o with
   | none=>rfl
   | some=>cases hiw
  repeat' (first|refine af ?_ ?_|(refine aa 9 rfl ?_;first|(refine cB [] (kH) ?_)|(refine cB [] (kL) ?_)|(refine cB [] (kW) ?_))|refine ae ?_|exact ah|refine ab fun hb=>?_)
  refine ai (fun i=>i≤L.length∧b7 q x (L.drop i)=b) (fun i=>bt [3,4,7,8,9] [(2,.c (.sl cw L)),(3,.c (.ptr 3 0)),(4,.c (.ptr 4 0)),(7,.c (.ptr 7 0)),(8,.c (.ptr 8 0)),(9,.c (.ptr 9 0)),(10,.b false),(11,.i i)] [(3,.box 81 q.d),(4,.box 63 (x.d d)),(7,.box 37 [.sc (.int .i64 l.mode),.sc (.int .i64 l.units)]),(8,.box 37 [.sc (.int .i64 h.mode),.sc (.int .i64 h.units)]),(9,.box 37 [.any,.any])]) (fun i=>L.length-i) 0 ⟨Nat.zero_le _,hB⟩ aN ?_;rintro i ⟨hi,hs⟩;by_cases hlt:i<L.length
  ·obtain ⟨a,ha⟩:∃a,L[i]=a:=⟨_,rfl⟩;have hga:L[i]? = some a:=by rw [List.getElem?_eq_getElem hlt,ha]
   rw [List.drop_eq_getElem_cons hlt,ha,pL,hl,hh,hw] at hs;by_cases hnm:a.name.toList=q.res.name.toList
   ·rw [show ba a.name q.res.name=true by simp [ba,hnm]] at hs;cases hcv:bg q.res l a.am with
    | true =>
     rw [hcv] at hs;repeat' (first|refine af ?_ ?_|refine aa 9 rfl (cB [] (dK q.res l a.am) ?_)|refine ae ?_|exact ah|refine ab fun hb=>?_)
     refine ⟨i+1,⟨by omega,hs⟩,by omega,?_⟩;exact aN
    | false =>
     rw [hcv] at hs;simp at hs;rw [←hs];repeat' (first|refine af ?_ ?_|(refine aa 9 rfl ?_;first|(refine cB [] (dK q.res l a.am) ?_)|(refine cB [] (Dq q.res l a.am) ?_))|refine ae ?_|exact ah|refine ab fun hb=>?_|exact aX|fail)
   ·rw [show ba a.name q.res.name=false by simp [ba,hnm]] at hs;repeat' (first|refine af ?_ ?_|refine aa 9 rfl (cB [] (dK q.res l a.am) ?_)|refine ae ?_|exact ah|refine ab fun hb=>?_)
    refine ⟨i+1,⟨by omega,hs⟩,by omega,?_⟩;exact aN
  ·rw [List.drop_eq_nil_of_le (by omega),show b7 q x []=(decide (ao q.holds x.proc=ax x.led.entries q.res.name) && !(ap q x.proc).isSome) from rfl,hh,hl,hw] at hs;simp at hs;rw [←hs];repeat' (first|refine af ?_ ?_|refine ae ?_|exact ah|refine ab fun hb=>?_)
   all_goals (refine d7 ?_;simp [*])
 | true =>
  obtain ⟨m,rfl⟩:∃m,o=some m:=by cases o with
   | none=>cases hiw
   | some m=>exact ⟨m,rfl⟩
  repeat' (first|refine af ?_ ?_|(refine aa 9 rfl ?_;first|(refine cB [] (kH) ?_)|(refine cB [] (kL) ?_)|(refine cB [] (kW) ?_))|refine ae ?_|exact ah|refine ab fun hb=>?_)
  refine ai (fun i=>i≤L.length∧b7 q x (L.drop i)=b) (fun i=>bt [3,4,7,8,9] [(2,.c (.sl cw L)),(3,.c (.ptr 3 0)),(4,.c (.ptr 4 0)),(7,.c (.ptr 7 0)),(8,.c (.ptr 8 0)),(9,.c (.ptr 9 0)),(10,.b true),(11,.i i)] [(3,.box 81 q.d),(4,.box 63 (x.d d)),(7,.box 37 [.sc (.int .i64 l.mode),.sc (.int .i64 l.units)]),(8,.box 37 [.sc (.int .i64 h.mode),.sc (.int .i64 h.units)]),(9,.box 37 [.sc (.int .i64 m.mode),.sc (.int .i64 m.units)])]) (fun i=>L.length-i) 0 ⟨Nat.zero_le _,hB⟩ aN ?_;rintro i ⟨hi,hs⟩;by_cases hlt:i<L.length
  case neg =>
   rw [List.drop_eq_nil_of_le (by omega),show b7 q x []=(decide (ao q.holds x.proc=ax x.led.entries q.res.name) && !(ap q x.proc).isSome) from rfl,hh,hl,hw] at hs;simp at hs;subst hs;repeat' (first|refine af ?_ ?_|refine ae ?_|exact ah|refine ab fun hb=>?_)
   all_goals (refine d7 ?_;simp [*])
  obtain ⟨a,ha⟩:∃a,L[i]=a:=⟨_,rfl⟩;have hga:L[i]? = some a:=by rw [List.getElem?_eq_getElem hlt,ha]
  rw [List.drop_eq_getElem_cons hlt,ha,pL,hl,hh,hw] at hs;by_cases hnm:a.name.toList=q.res.name.toList
  case neg =>
   rw [show ba a.name q.res.name=false by simp [ba,hnm]] at hs;repeat' (first|refine af ?_ ?_|refine aa 9 rfl (cB [] (dK q.res l a.am) ?_)|refine ae ?_|exact ah|refine ab fun hb=>?_)
   refine ⟨i+1,⟨by omega,hs⟩,by omega,?_⟩;exact aN
  rw [show ba a.name q.res.name=true by simp [ba,hnm]] at hs;cases hcv:bg q.res l a.am with
  | true =>
   rw [hcv] at hs;repeat' (first|refine af ?_ ?_|refine aa 9 rfl (cB [] (dK q.res l a.am) ?_)|refine ae ?_|exact ah|refine ab fun hb=>?_)
   refine ⟨i+1,⟨by omega,hs⟩,by omega,?_⟩;exact aN
  | false =>
   rw [hcv] at hs;obtain ⟨f,hf⟩:∃f:Wt→Bool,f=fun y=>decide (y.proc=x.proc) && !decide (y.prio=x.req.prio):=⟨_,rfl⟩;rw [←hf] at hs;obtain ⟨j,hj⟩:∃j,bG q.res l a.am=j:=⟨_,rfl⟩;have kJ:=Dq q.res l a.am;rw [hj] at hs kJ;simp only [Bool.not_true,Bool.or_self,cond_false,Option.isSome_some] at hs;repeat' (first|refine af ?_ ?_|(refine aa 9 rfl ?_;first|(refine cB [] (dK q.res l a.am) ?_)|(refine cB [] (kJ) ?_))|refine ae ?_|exact ah|refine ab fun hb=>?_)
   refine ai (fun k=>k≤q.waits.length∧q.waits.any f=(q.waits.drop k).any f) (fun k=>bt [3,4,7,8,9,13] [(3,.c (.ptr 3 0)),(4,.c (.ptr 4 0)),(7,.c (.ptr 7 0)),(8,.c (.ptr 8 0)),(9,.c (.ptr 9 0)),(13,.c (.ptr 13 0)),(14,.i k)] [(3,.box 81 q.d),(4,.box 63 (x.d d)),(7,.box 37 [.sc (.int .i64 l.mode),.sc (.int .i64 l.units)]),(8,.box 37 [.sc (.int .i64 h.mode),.sc (.int .i64 h.units)]),(9,.box 37 [.sc (.int .i64 m.mode),.sc (.int .i64 m.units)]),(13,.box 37 [.sc (.int .i64 j.mode),.sc (.int .i64 j.units)])]) (fun k=>q.waits.length-k) 0 ⟨Nat.zero_le _,rfl⟩ aN ?_;rintro k ⟨hk,hany⟩;by_cases hkl:k<q.waits.length
   case neg =>
    rw [List.drop_eq_nil_of_le (by omega),List.any_nil] at hany;rw [hany] at hs;rw [←hs];repeat' (first|refine af ?_ ?_|refine ae ?_|exact ah|refine ab fun hb=>?_)
    all_goals (refine d7 ?_;simp [*])
   obtain ⟨y,hy⟩:∃y,q.waits[k]=y:=⟨_,rfl⟩;have hgy:q.waits[k]? = some y:=by rw [List.getElem?_eq_getElem hkl,hy]
   rw [List.drop_eq_getElem_cons hkl,hy,List.any_cons] at hany;by_cases hfy:y.proc=x.proc∧y.prio≠x.req.prio
   ·obtain ⟨hf1,hf2⟩:=hfy;rw [show f y=true by rw [hf];simp [hf1,hf2],Bool.true_or] at hany;rw [hany] at hs;rw [←hs];repeat' (first|refine af ?_ ?_|refine ae ?_|exact ah|(refine ab fun hb=>?_;first|(exact (hf2 hb).elim)|(exact (hb hf1).elim)|skip))
    all_goals (refine d7 ?_;rfl)
   ·rw [show f y=false by rw [hf];simp;intro h1;exact Classical.byContradiction fun h2=>hfy ⟨h1,h2⟩,Bool.false_or] at hany;repeat' (first|refine af ?_ ?_|refine ae ?_|exact ah|(refine ab fun hb=>?_;first|(exact (hfy ⟨by assumption,hb⟩).elim)|skip))
    all_goals (refine ⟨k+1,⟨by omega,hany⟩,by omega,?_⟩;exact aN)
theorem BG (t:List Qu) (p:Pr) (hl:t.length≤100000):FSpec prog 68 [.one (.sl dC t),p.a] [] [] (.c (.sl cw (dH t p))) []:=by
 refine aP func68 ?_;repeat' (first|refine af ?_ ?_|refine ae ?_|exact ah|refine ab fun hb=>?_)
 refine bV 5 1000 39 cw rfl rfl rfl ?_;refine ai (fun x:Nat×List Tm=>x.1≤t.length∧x.2.length≤x.1∧x.2++dH (t.drop x.1) p=dH t p) (fun x=>bt [3,1000] [(0,.c (.sl dC t)),(3,.c (.ptr 3 0)),(5,.c (.own 1000)),(6,.i x.1)] [(3,.box 35 [.sc (.int .i64 p.site),.sc (.int .i64 p.inc),.sc (.int .i64 p.num)]),(1000,.arr 39 cw x.2)]) (fun x=>t.length-x.1) (0,[]) ⟨Nat.zero_le _,Nat.le_refl _,rfl⟩ aN ?_;rintro ⟨i,acc⟩ ⟨hi,hal,hs⟩;dsimp only at *
 by_cases hlt:i<t.length
 ·have e:dH (t.drop i) p=(bif aH (ao t[i].holds p) then [] else [⟨t[i].res.name,ao t[i].holds p⟩])++dH (t.drop (i+1)) p:=by
   rw [List.drop_eq_getElem_cons hlt];unfold dH;rw [List.map_cons,List.filter_cons];cases aH (ao t[i].holds p) <;> rfl
  rw [e] at hs;repeat' (first|refine af ?_ ?_|(refine aa 8 rfl ?_;refine aV (ak rfl rfl (aB rfl rfl) (aD [⟨t[i].res.name,ao t[i].holds p⟩] rfl rfl rfl rfl) rfl aL aL) rfl rfl rfl ?_)|(refine aa 9 rfl ?_;first|(refine cB [] (fg t[i] p) ?_)|(refine cB [] (fP (ao t[i].holds p)) ?_))|refine ae ?_|exact ah|refine ab fun hb=>?_)
  ·refine ⟨(i+1,acc++[⟨t[i].res.name,ao t[i].holds p⟩]),⟨by dsimp only;omega,by simp;omega,?_⟩,by dsimp only;omega,?_⟩
   ·rw [hb] at hs;rw [←hs];simp
   ·exact a8 (qf [(1000,33)])
  ·refine ⟨(i+1,acc),⟨by dsimp only;omega,by dsimp only;omega,?_⟩,by dsimp only;omega,?_⟩
   ·rw [hb] at hs;rw [←hs];simp
   ·exact aN
 ·have e:acc=dH t p:=by rw [←hs,List.drop_eq_nil_of_le (by omega)];simp [dH]
  repeat' (first|refine af ?_ ?_|refine ae ?_|exact ah|refine ab fun hb=>?_)
  rw [←e];refine bP (qf []) ?_;exact aj
theorem Gp (t:List Qu) (p:Pr) (hl:t.length≤100000):FSpec prog 69 [.one (.sl dC t),p.a] [] [] (.c (.sl cw (bD p t))) []:=by
 refine aP func69 ?_;repeat' (first|refine af ?_ ?_|refine ae ?_|exact ah|refine ab fun hb=>?_)
 refine bV 5 1000 39 cw rfl rfl rfl ?_;refine ai (fun x:Nat×List Tm=>x.1≤t.length∧x.2.length≤x.1∧x.2++bD p (t.drop x.1)=bD p t) (fun x=>bt [3,1000] [(0,.c (.sl dC t)),(3,.c (.ptr 3 0)),(5,.c (.own 1000)),(6,.i x.1)] [(3,.box 35 [.sc (.int .i64 p.site),.sc (.int .i64 p.inc),.sc (.int .i64 p.num)]),(1000,.arr 39 cw x.2)]) (fun x=>t.length-x.1) (0,[]) ⟨Nat.zero_le _,Nat.le_refl _,rfl⟩ aN ?_;rintro ⟨i,acc⟩ ⟨hi,hal,hs⟩;dsimp only at *
 by_cases hlt:i<t.length
 ·rw [List.drop_eq_getElem_cons hlt] at hs;cases hw:ap t[i] p with
  | some a =>
   rw [show bD p (t[i] :: t.drop (i+1))=⟨t[i].res.name,a⟩ :: bD p (t.drop (i+1)) by simp [bD,hw]] at hs;repeat' (first|refine af ?_ ?_|(refine aa 8 rfl ?_;refine aV (ak rfl rfl (aB rfl rfl) (aD [⟨t[i].res.name,a⟩] rfl rfl rfl rfl) rfl aL aL) rfl rfl rfl ?_)|refine aa 9 rfl (cB [] (cl t[i] p hw) ?_)|refine ae ?_|exact ah|refine ab fun hb=>?_)
   refine ⟨(i+1,acc++[⟨t[i].res.name,a⟩]),⟨by dsimp only;omega,by simp;omega,?_⟩,by dsimp only;omega,?_⟩
   ·rw [←hs];simp
   ·exact a8 (qf [(1000,35)])
  | none =>
   rw [show bD p (t[i] :: t.drop (i+1))=bD p (t.drop (i+1)) by simp [bD,hw]] at hs;repeat' (first|refine af ?_ ?_|refine aa 9 rfl (cB [] (cl t[i] p hw) ?_)|refine ae ?_|exact ah|refine ab fun hb=>?_)
   refine ⟨(i+1,acc),⟨by dsimp only;omega,by dsimp only;omega,?_⟩,by dsimp only;omega,?_⟩
   ·rw [←hs]
   ·exact aN
 ·have e:acc=bD p t:=by rw [←hs,List.drop_eq_nil_of_le (by omega)];simp [bD]
  repeat' (first|refine af ?_ ?_|refine ae ?_|exact ah|refine ab fun hb=>?_)
  rw [←e];refine bP (qf []) ?_;exact aj
theorem yX (a b:List Tm):FSpec prog 67 [.one (.sl cw a),.one (.sl cw b)] [] [] (.b (decide (a=b))) []:=by
 refine aP func67 ?_;refine aM (fun c ρ a w hr=>bz (t:=0) hr rfl) (fun hl0=>?_);by_cases hl:a.length=b.length
 case neg =>
  have hne:a≠b:=fun e=>hl (by rw [e]);rw [decide_eq_false hne];repeat' (first|refine af ?_ ?_|refine ae ?_|exact ah|refine ab fun hb=>?_|exact aX|fail)
 repeat' (first|refine af ?_ ?_|refine ae ?_|exact ah|refine ab fun hb=>?_)
 refine ai (fun i=>i≤a.length∧((a=b)↔a.drop i=b.drop i)) (fun i=>bt [] [(0,.c (.sl cw a)),(1,.c (.sl cw b)),(5,.i i)] []) (fun i=>a.length-i) 0 ⟨Nat.zero_le _,Iff.rfl⟩ aN ?_;rintro i ⟨hi,hs⟩;by_cases hlt:i<a.length
 ·have hlt2:i<b.length:=by omega
  rw [List.drop_eq_getElem_cons hlt,List.drop_eq_getElem_cons hlt2,List.cons.injEq] at hs;obtain ⟨x,hx⟩:∃x,a[i]? = some x:=⟨_,List.getElem?_eq_getElem hlt⟩;obtain ⟨y,hy⟩:∃y,b[i]? = some y:=⟨_,List.getElem?_eq_getElem hlt2⟩;have ex:a[i]=x:=(List.getElem?_eq_some_iff.1 hx).2;have ey:b[i]=y:=(List.getElem?_eq_some_iff.1 hy).2;rw [ex,ey] at hs;clear ex ey;by_cases he:x=y
  ·subst he;repeat' (first|refine af ?_ ?_|refine ae ?_|exact ah|(refine ab fun hb=>?_;first|(exact absurd rfl hb)|skip))
   refine ⟨i+1,⟨by omega,?_⟩,by omega,?_⟩
   ·rw [hs];simp
   ·exact aN
  ·rw [decide_eq_false (fun e=>he (hs.1 e).1)];repeat' (first|refine af ?_ ?_|refine ae ?_|exact ah|(refine ab fun hb=>?_;first|(exact absurd hb he)|skip)|exact aX|fail)
 ·rw [List.drop_eq_nil_of_le (by omega),List.drop_eq_nil_of_le (by omega)] at hs;rw [decide_eq_true (hs.2 rfl)];repeat' (first|refine af ?_ ?_|refine ae ?_|exact ah|refine ab fun hb=>?_|exact aX|fail)
theorem La (l:List Tm):(((l.length:Nat):Int) == 0)=decide (l=[]):=by
 rw [Bool.eq_iff_iff];cases l with
 | nil=>simp
 | cons x l=>simp;omega
def Cs.d (d:Nat) (c:Cs):List D:=[.sc (.int .i64 c.now),.sl dC c.queues,.sl (eI d) c.procs]
def Cs.a (d:Nat) (c:Cs):V0:=.ag (c.d d)
def BH (c:Cs) (a:Tm):Bool:=aW c.queues a.name && aF (be c.queues a.name).res a.am
def Gq (c:Cs) (x:Pc):Bool:=E3 x.req && decide (x.since=0) && decide (eH x.led=dH c.queues x.proc) && decide (bD x.proc c.queues=[])
def Ad (c:Cs) (x:Pc):Bool:=oG x.req && decide (gw c.queues x.req.expr=0) && decide (0≤x.since) && decide (x.since≤c.now) && (decide (x.req.limit=0) || decide (c.now<x.since+x.req.limit)) && !dD x.req.expr (aZ c.queues x.proc x.req.expr) && c.queues.all (fun q=>b7 q x (cy x.req.expr))
theorem xG (c:Cs) (x:Pc):mx c x=(jl x.proc && decide (1≤x.cost) && decide (x.cost≤1000) && oD x.led && decide (0≤x.gen) && decide (x.gen≤1073741824) && (eH x.led).all (BH c) && bif !x.waiting then Gq c x else Ad c x):=rfl
theorem D4 (d:Nat) (c:Cs) (x:Pc) (hn:0≤c.now∧c.now≤1073741824) (hV:du c.queues=true) {b:Bool} (hB:mx c x=b):FSpec prog 31 [c.a d,x.a d] [] [] (.b b) []:=by
 refine aP func31 ?_;have hq8:=(bf hV).1;rw [xG] at hB;have kV:=ga x.proc;have kG:=cI x.led;obtain ⟨v,hv⟩:∃v,jl x.proc=v:=⟨_,rfl⟩;rw [hv] at kV;cases v with
 | false =>
  obtain rfl:b=false:=by rw [←hB,hv];rfl
  repeat' (first|refine af ?_ ?_|refine aa 9 rfl (cB [] (kV) ?_)|refine ae ?_|exact ah|refine ab fun hb=>?_|exact aX|fail)
 | true =>
  by_cases h1:1≤x.cost∧x.cost≤1000
  case neg =>
   obtain rfl:b=false:=by rw [←hB,show decide (1≤x.cost) = !decide (x.cost<1) by by_cases h:x.cost<1 <;> simp [h] <;> omega];by_cases h:x.cost<1 <;> simp [h] <;> omega
   by_cases h2:x.cost<1
   ·repeat' (first|refine af ?_ ?_|refine aa 9 rfl (cB [] (kV) ?_)|refine ae ?_|exact ah|refine ab fun hb=>?_|exact aX|fail)
   ·repeat' (first|refine af ?_ ?_|refine aa 9 rfl (cB [] (kV) ?_)|refine ae ?_|exact ah|refine ab fun hb=>?_|exact aX|fail)
  obtain ⟨h1,h2⟩:=h1;rw [hv,decide_eq_true h1,decide_eq_true h2] at hB;obtain ⟨g,hg⟩:∃g,oD x.led=g:=⟨_,rfl⟩;rw [hg] at kG hB;cases g with
  | false =>
   obtain rfl:b=false:=by rw [←hB];rfl
   repeat' (first|refine af ?_ ?_|(refine aa 9 rfl ?_;first|(refine cB [] (kV) ?_)|(refine cB [] (kG) ?_))|refine ae ?_|exact ah|refine ab fun hb=>?_|exact aX|fail)
  | true =>
   by_cases h3:0≤x.gen∧x.gen≤1073741824
   case neg =>
    obtain rfl:b=false:=by rw [←hB];by_cases h:0≤x.gen <;> simp [h] <;> omega
    by_cases h4:x.gen<0
    ·repeat' (first|refine af ?_ ?_|(refine aa 9 rfl ?_;first|(refine cB [] (kV) ?_)|(refine cB [] (kG) ?_))|refine ae ?_|exact ah|refine ab fun hb=>?_|exact aX|fail)
    ·repeat' (first|refine af ?_ ?_|(refine aa 9 rfl ?_;first|(refine cB [] (kV) ?_)|(refine cB [] (kG) ?_))|refine ae ?_|exact ah|refine ab fun hb=>?_|exact aX|fail)
   obtain ⟨h3,h4⟩:=h3;rw [decide_eq_true h3,decide_eq_true h4] at hB;simp only [Bool.true_and] at hB;have kH:=yN x.led (eP hg).1;obtain ⟨L,hL⟩:∃L,eH x.led=L:=⟨_,rfl⟩;have hL8:L.length≤8:=by
    rw [←hL];unfold eH;exact Nat.le_trans (List.length_filter_le _ _) (by rw [List.length_map];exact (fm.1 hg).nms)
   rw [hL] at kH hB;repeat' (first|refine af ?_ ?_|(refine aa 9 rfl ?_;first|(refine cB [] (kV) ?_)|(refine cB [] (kG) ?_)|(refine cC [] (kH) ?_))|refine ae ?_|exact ah|refine ab fun hb=>?_)
   refine ai (fun i=>i≤L.length∧(L.all (BH c)=(L.drop i).all (BH c))) (fun i=>bt [2,3] [(2,.c (.ptr 2 0)),(3,.c (.ptr 3 0)),(5,.c (.sl cw L)),(6,.i i)] [(2,.box 26 (c.d d)),(3,.box 63 (x.d d))]) (fun i=>L.length-i) 0 ⟨Nat.zero_le _,rfl⟩ aN ?_;rintro i ⟨hi,hs⟩;by_cases hlt:i<L.length
   ·obtain ⟨a,ha⟩:∃a,L[i]? = some a:=⟨_,List.getElem?_eq_getElem hlt⟩;have ea:L[i]=a:=(List.getElem?_eq_some_iff.1 ha).2;rw [List.drop_eq_getElem_cons hlt,ea,List.all_cons] at hs;by_cases hk:bk a.name 0 c.queues<0
    ·have hf:BH c a=false:=by unfold BH aW;rw [decide_eq_false (by omega)];rfl
     obtain rfl:b=false:=by rw [←hB,hs,hf];rfl
     have kF:=oH c.queues a.name;repeat' (first|refine af ?_ ?_|refine aa 9 rfl (cB [] (kF) ?_)|refine ae ?_|exact ah|refine ab fun hb=>?_|exact aX|fail)
    ·obtain ⟨j,hj,hF,hqa,hx⟩:=d8 hk;have kF:=dl c.queues a.name hF;obtain ⟨q,hq⟩:∃q,c.queues[j]? = some q:=⟨_,List.getElem?_eq_getElem hj⟩;have eq:c.queues[j]=q:=(List.getElem?_eq_some_iff.1 hq).2;have hf:BH c a=aF q.res a.am:=by
      unfold BH aW be;rw [hqa,eq,decide_eq_true (by omega)];rfl
     have kR:=im q.res a.am;obtain ⟨f,hff⟩:∃f,aF q.res a.am=f:=⟨_,rfl⟩;rw [hff] at kR hf;rw [hf] at hs;clear hF hk hqa hx;cases f with
     | false =>
      obtain rfl:b=false:=by rw [←hB,hs];rfl
      repeat' (first|refine af ?_ ?_|(refine aa 9 rfl ?_;first|(refine cB [] (kF) ?_)|(refine cB [] (kR) ?_))|refine ae ?_|exact ah|refine ab fun hb=>?_|exact aX|fail)
     | true =>
      repeat' (first|refine af ?_ ?_|(refine aa 9 rfl ?_;first|(refine cB [] (kF) ?_)|(refine cB [] (kR) ?_))|refine ae ?_|exact ah|refine ab fun hb=>?_)
      refine ⟨i+1,⟨by omega,?_⟩,by omega,?_⟩
      ·rw [hs,Bool.true_and]
      ·exact aN
   rw [List.drop_eq_nil_of_le (by omega),List.all_nil] at hs;rw [hs,Bool.true_and] at hB;clear hs;cases hw:x.waiting with
   | false =>
    rw [hw,Bool.not_false,cond_true] at hB;rw [←hB];have kA:=Bx d x.req;have kO:=BG c.queues x.proc (by omega);have kS:=yX L (dH c.queues x.proc);have kC:=Gp c.queues x.proc (by omega);repeat' (first|refine af ?_ ?_|(refine aa 9 rfl ?_;first|(refine cB [] (kA) ?_)|(refine cC [] (kO) ?_)|(refine cB [] (kS) ?_)|(refine cC [] (kC) ?_))|refine ae ?_|exact ah|(refine ab fun hb=>?_;first|(cases hw.symm.trans hb;done)|skip))
    all_goals (refine d7 ?_;rw [←hL] at *;simp [Gq,La, *])
   | true =>
    rw [hw,Bool.not_true,cond_false] at hB;unfold Ad at hB;have kQ:=xh d x.req;have kC:=xl c.queues (by omega);have kR:=J0 d c.queues x.req.expr hV;obtain ⟨rq,hrq⟩:∃rq,oG x.req=rq:=⟨_,rfl⟩;rw [hrq] at kQ hB;cases rq with
    | false =>
     obtain rfl:b=false:=by rw [←hB];rfl
     repeat' (first|refine af ?_ ?_|refine aa 9 rfl (cB [] (kQ) ?_)|refine ae ?_|exact ah|(refine ab fun hb=>?_;first|(cases hw.symm.trans hb;done)|skip)|exact aX|fail)
    | true =>
     obtain ⟨e,he⟩:∃e,gw c.queues x.req.expr=e:=⟨_,rfl⟩;rw [he] at kR hB;by_cases h0:e=0
     case neg =>
      obtain rfl:b=false:=by rw [←hB,decide_eq_false h0];rfl
      repeat' (first|refine af ?_ ?_|(refine aa 9 rfl ?_;first|(refine cB [] (kQ) ?_)|(refine cC [] (kC) ?_)|(refine cB [] (kR) ?_))|refine ae ?_|exact ah|(refine ab fun hb=>?_;first|(cases hw.symm.trans hb;done)|(exact absurd hb h0)|skip)|exact aX|fail)
     subst h0;have hlim:0≤x.req.limit∧x.req.limit≤1000:=by
      unfold oG at hrq;simp only [Bool.and_eq_true,decide_eq_true_eq] at hrq;exact ⟨hrq.1.2,hrq.2⟩
     have hgl:(aZ c.queues x.proc x.req.expr).length≤1000:=by have:=cd x.req.expr;simp [aZ];omega
     have kGr:=lw d c.queues x.proc x.req.expr;have kHo:=vi d x.req.expr (aZ c.queues x.proc x.req.expr) hgl;obtain ⟨T,hT⟩:∃T,cy x.req.expr=T:=⟨_,rfl⟩;rw [hT] at hB;have kAt:=lv d x.req.expr hT;by_cases hsn:0≤x.since∧x.since≤c.now
     case neg =>
      obtain rfl:b=false:=by rw [←hB];by_cases h:0≤x.since <;> simp [h] <;> omega
      by_cases h9:x.since<0
      ·repeat' (first|refine af ?_ ?_|(refine aa 9 rfl ?_;first|(refine cB [] (kQ) ?_)|(refine cC [] (kC) ?_)|(refine cB [] (kR) ?_))|refine ae ?_|exact ah|(refine ab fun hb=>?_;first|(cases hw.symm.trans hb;done)|skip)|exact aX|fail)
      ·repeat' (first|refine af ?_ ?_|(refine aa 9 rfl ?_;first|(refine cB [] (kQ) ?_)|(refine cC [] (kC) ?_)|(refine cB [] (kR) ?_))|refine ae ?_|exact ah|(refine ab fun hb=>?_;first|(cases hw.symm.trans hb;done)|skip)|exact aX|fail)
     obtain ⟨hs1,hs2⟩:=hsn;rw [decide_eq_true hs1,decide_eq_true hs2] at hB;simp only [decide_true,Bool.true_and] at hB;by_cases hli:x.req.limit=0∨c.now<x.since+x.req.limit
     case neg =>
      obtain rfl:b=false:=by rw [←hB,decide_eq_false (fun h=>hli (.inl h)),decide_eq_false (fun h=>hli (.inr h))];rfl
      rw [not_or] at hli;obtain ⟨hl1,hl2⟩:=hli;repeat' (first|refine af ?_ ?_|(refine aa 9 rfl ?_;first|(refine cB [] (kQ) ?_)|(refine cC [] (kC) ?_)|(refine cB [] (kR) ?_))|refine ae ?_|exact ah|(refine ab fun hb=>?_;first|(cases hw.symm.trans hb;done)|(exact absurd hb hl1)|skip)|exact aX|fail)
     have hli':(decide (x.req.limit=0) || decide (c.now<x.since+x.req.limit))=true:=by simpa using hli
     rw [hli',Bool.true_and] at hB;obtain ⟨ho,hho⟩:∃ho,dD x.req.expr (aZ c.queues x.proc x.req.expr)=ho:=⟨_,rfl⟩;rw [hho] at kHo hB;cases ho with
     | true =>
      obtain rfl:b=false:=by rw [←hB];rfl
      rcases hli with hl1|hl1
      ·repeat' (first|refine af ?_ ?_|(refine aa 9 rfl ?_;first|(refine cB [] (kQ) ?_)|(refine cC [] (kC) ?_)|(refine cB [] (kR) ?_)|(refine cC [] (kGr) ?_)|(refine cB [] (kHo) ?_))|refine ae ?_|exact ah|(refine ab fun hb=>?_;first|(cases hw.symm.trans hb;done)|(exact absurd hl1 hb)|skip)|exact aX|fail)
      ·by_cases hl2:x.req.limit=0
       ·repeat' (first|refine af ?_ ?_|(refine aa 9 rfl ?_;first|(refine cB [] (kQ) ?_)|(refine cC [] (kC) ?_)|(refine cB [] (kR) ?_)|(refine cC [] (kGr) ?_)|(refine cB [] (kHo) ?_))|refine ae ?_|exact ah|(refine ab fun hb=>?_;first|(cases hw.symm.trans hb;done)|(exact absurd hl2 hb)|skip)|exact aX|fail)
       ·repeat' (first|refine af ?_ ?_|(refine aa 9 rfl ?_;first|(refine cB [] (kQ) ?_)|(refine cC [] (kC) ?_)|(refine cB [] (kR) ?_)|(refine cC [] (kGr) ?_)|(refine cB [] (kHo) ?_))|refine ae ?_|exact ah|(refine ab fun hb=>?_;first|(cases hw.symm.trans hb;done)|(exact absurd hb hl2)|skip)|exact aX|fail)
     | false =>
      rw [Bool.not_false,Bool.true_and] at hB;obtain ⟨F,hF⟩:∃F:Qu→Bool,(fun q=>b7 q x T)=F:=⟨_,rfl⟩;have hF':∀q,b7 q x T=F q:=fun q=>congrFun hF q;rw [hF] at hB;by_cases hl2:x.req.limit=0
      case' pos =>
       repeat' (first|refine af ?_ ?_|(refine aa 9 rfl ?_;first|(refine cB [] (kQ) ?_)|(refine cC [] (kC) ?_)|(refine cB [] (kR) ?_)|(refine cC [] (kGr) ?_)|(refine cB [] (kHo) ?_)|(refine cC [] (kAt) ?_))|refine ae ?_|exact ah|(refine ab fun hb=>?_;first|(cases hw.symm.trans hb;done)|(exact absurd hl2 hb)|skip))
      case' neg =>
       repeat' (first|refine af ?_ ?_|(refine aa 9 rfl ?_;first|(refine cB [] (kQ) ?_)|(refine cC [] (kC) ?_)|(refine cB [] (kR) ?_)|(refine cC [] (kGr) ?_)|(refine cB [] (kHo) ?_)|(refine cC [] (kAt) ?_))|refine ae ?_|exact ah|(refine ab fun hb=>?_;first|(cases hw.symm.trans hb;done)|(exact absurd hb hl2)|skip))
      all_goals
       refine ai (fun i=>i≤c.queues.length∧(c.queues.all F=(c.queues.drop i).all F)) (fun i=>bt [2,3] [(2,.c (.ptr 2 0)),(3,.c (.ptr 3 0)),(9,.c (.sl cw T)),(10,.i i)] [(2,.box 26 (c.d d)),(3,.box 63 (x.d d))]) (fun i=>c.queues.length-i) 0 ⟨Nat.zero_le _,rfl⟩ aN ?_;clear kAt kHo kGr kR kC kQ hli';rintro i ⟨hi,hs⟩;by_cases hlt:i<c.queues.length
       ·obtain ⟨q,hq⟩:∃q,c.queues[i]? = some q:=⟨_,List.getElem?_eq_getElem hlt⟩;have eq:c.queues[i]=q:=(List.getElem?_eq_some_iff.1 hq).2;rw [List.drop_eq_getElem_cons hlt,eq,List.all_cons] at hs;have kP:=Kc d q x T;rw [hF'] at kP;obtain ⟨f,hff⟩:∃f,F q=f:=⟨_,rfl⟩;rw [hff] at kP hs;cases f with
        | false =>
         obtain rfl:b=false:=by rw [←hB,hs];rfl
         repeat' (first|refine af ?_ ?_|refine aa 9 rfl (cB [] (kP) ?_)|refine ae ?_|exact ah|refine ab fun hb=>?_|exact aX|fail)
        | true =>
         repeat' (first|refine af ?_ ?_|refine aa 9 rfl (cB [] (kP) ?_)|refine ae ?_|exact ah|refine ab fun hb=>?_)
         refine ⟨i+1,⟨by omega,?_⟩,by omega,?_⟩
         ·rw [hs,Bool.true_and]
         ·exact aN
       ·rw [List.drop_eq_nil_of_le (by omega),List.all_nil] at hs;obtain rfl:b=true:=by rw [←hB,hs]
        repeat' (first|refine af ?_ ?_|refine ae ?_|exact ah|refine ab fun hb=>?_|exact aX|fail)
theorem IF {d d':Nat} (hd:d≤d') {w:World} {S:Nat→Prop} {x:Pc} {cs:List Value} (h:(eI d).rep w S x cs):(eI d').rep w S x cs:=by
 obtain ⟨A1,c1,A2,c2,A3,c3,e,h1,h2,h3,h4,h5,h6⟩:=h;exact ⟨A1,c1,A2,c2,A3,c3,e,h1,h2,h3,h4,h5.map fun _ _ hx=>qC hd hx,h6⟩
theorem Cs.up {d d':Nat} (hd:d≤d') {w:World} {S:Nat→Prop} {ρ:Nat→Value} {c:Cs} {v:Value} (h:(c.a d).rep w S ρ v):(c.a d').rep w S ρ v:=by
 obtain ⟨cs,e,hA⟩:=h
 match cs,hA with
 | [_,_,_],⟨h1,h2,⟨A,cap,h3,h4,h5⟩,_⟩=>exact ⟨_,e,h1,h2,⟨A,cap,h3,h4,h5.map fun _ _ hx=>IF hd hx⟩,trivial⟩
section
open Go.WideShapes Go.ChangeShapes Go.Deep Go.Joins
theorem BI:Opens prog dC 81 (fun _=>True):=by
 intro H enc w base spare held fuel cs x h;obtain ⟨xs,n,_,_,hl,hlen,hf⟩:=DataW.trod_struct underlying81 h;have hl2:cs.length=8:=hl.trans (by kernel_rfl);have hg:∀(i:Nat) (f:Field),_=some f→∃y,DataW.trod enc prog w base spare held n f.type ((cs.drop f.offset).take (prog.cellsOf f.type))=some y:=fun i f hi=>by
  have h1:=hf i f hi;have h2:i<xs.length:=by rw [hlen];exact (Array.getElem?_eq_some_iff.1 hi).1
  rw [List.getElem?_eq_getElem h2] at h1;exact ⟨_,h1⟩
 match cs,hl2 with
 | [c0,c1,c2,c3,c4,c5,c6,c7],_ =>
  obtain ⟨_,h0⟩:=hg 0 _ rfl;obtain ⟨_,h1⟩:=hg 1 _ rfl;obtain ⟨_,h2⟩:=hg 2 _ rfl;obtain ⟨_,h3⟩:=hg 3 _ rfl;obtain ⟨_,h4⟩:=hg 4 _ rfl;have e1:prog.cellsOf 55=4:=by kernel_rfl
  have e2:prog.cellsOf 78=1:=by kernel_rfl
  have e3:prog.cellsOf 79=1:=by kernel_rfl
  have e4:prog.cellsOf 3=1:=by kernel_rfl
  obtain ⟨⟨rn,rk,ru,rh⟩,g0,_⟩:=AL h0;obtain ⟨hs,⟨A1,k1,g1,a1,b1,r1⟩,_⟩:=(CJ.sl underlying78 (by kernel_rfl)) h1;obtain ⟨vs,⟨A2,k2,g2,a2,b2,r2⟩,_⟩:=(wk.sl underlying79 (by kernel_rfl)) h2;obtain ⟨ws,⟨A3,k3,g3,a3,b3,r3⟩,_⟩:=(wk.sl underlying79 (by kernel_rfl)) h3;obtain ⟨gen,g4,_⟩:=bw underlying3 h4;have g0':([c0,c1,c2,c3,c4,c5,c6,c7].drop 0).take (prog.cellsOf 55)=[.string rn,.int .i64 rk,.int .i64 ru,.int .i64 rh]:=g0;have g1':([c0,c1,c2,c3,c4,c5,c6,c7].drop 4).take (prog.cellsOf 78)=[.slice A1 hs.length k1]:=g1;have g2':([c0,c1,c2,c3,c4,c5,c6,c7].drop 5).take (prog.cellsOf 79)=[.slice A2 vs.length k2]:=g2;have g3':([c0,c1,c2,c3,c4,c5,c6,c7].drop 6).take (prog.cellsOf 79)=[.slice A3 ws.length k3]:=g3;have g4':([c0,c1,c2,c3,c4,c5,c6,c7].drop 7).take (prog.cellsOf 3)=[.int .i64 gen]:=g4;rw [e1] at g0';rw [e2] at g1';rw [e3] at g2' g3';rw [e4] at g4';simp at g0' g1' g2' g3' g4';exact ⟨⟨⟨rn,rk,ru,rh⟩,hs,vs,ws,gen⟩,⟨g0'.1,g0'.2.1,g0'.2.2.1,g0'.2.2.2,⟨A1,k1,g1',⟨a1,b1⟩,r1⟩,⟨A2,k2,g2',⟨a2,b2⟩,r2⟩,⟨A3,k3,g3',⟨a3,b3⟩,r3⟩,g4',trivial⟩,trivial⟩
theorem D5 (N:Nat):OpensN prog N (eI N) 63 (fun _=>True):=by
 intro H enc w base spare held cs x h;obtain ⟨xs,n,hN,_,hl,hlen,hf⟩:=DataW.trod_struct underlying63 h;have hl2:cs.length=16:=hl.trans (by kernel_rfl);have hg:∀(i:Nat) (f:Field),_=some f→∃y,DataW.trod enc prog w base spare held n f.type ((cs.drop f.offset).take (prog.cellsOf f.type))=some y:=fun i f hi=>by
  have h1:=hf i f hi;have h2:i<xs.length:=by rw [hlen];exact (Array.getElem?_eq_some_iff.1 hi).1
  rw [List.getElem?_eq_getElem h2] at h1;exact ⟨_,h1⟩
 subst hN
 match cs,hl2 with
 | [c0,c1,c2,c3,c4,c5,c6,c7,c8,c9,c10,c11,c12,c13,c14,c15],_ =>
  obtain ⟨_,h0⟩:=hg 0 _ rfl;obtain ⟨_,h1⟩:=hg 1 _ rfl;obtain ⟨_,h2⟩:=hg 2 _ rfl;obtain ⟨_,h3⟩:=hg 3 _ rfl;obtain ⟨_,h4⟩:=hg 4 _ rfl;obtain ⟨_,h5⟩:=hg 5 _ rfl;obtain ⟨_,h6⟩:=hg 6 _ rfl;have e1:prog.cellsOf 35=3:=by kernel_rfl
  have e2:prog.cellsOf 3=1:=by kernel_rfl
  have e3:prog.cellsOf 61=2:=by kernel_rfl
  have e4:prog.cellsOf 4=1:=by kernel_rfl
  have e5:prog.cellsOf 44=7:=by kernel_rfl
  obtain ⟨⟨pa,pb,pc⟩,g0,_⟩:=nj h0;obtain ⟨co,g1,_⟩:=bw underlying3 h1;obtain ⟨g,A1,A2,k1,k2,g2,l1,r1,l2,r2⟩:=wX h2;obtain ⟨wa,g3,_⟩:=yc underlying4 h3;obtain ⟨q,D,A3,k3,g4,l3,r3,hD⟩:=nO h4;obtain ⟨si,g5,_⟩:=bw underlying3 h5;obtain ⟨ge,g6,_⟩:=bw underlying3 h6;have g0':([c0,c1,c2,c3,c4,c5,c6,c7,c8,c9,c10,c11,c12,c13,c14,c15].drop 0).take (prog.cellsOf 35)=[.int .i64 pa,.int .i64 pb,.int .i64 pc]:=g0;have g1':([c0,c1,c2,c3,c4,c5,c6,c7,c8,c9,c10,c11,c12,c13,c14,c15].drop 3).take (prog.cellsOf 3)=[.int .i64 co]:=g1;have g2':([c0,c1,c2,c3,c4,c5,c6,c7,c8,c9,c10,c11,c12,c13,c14,c15].drop 4).take (prog.cellsOf 61)=_:=g2;have g3':([c0,c1,c2,c3,c4,c5,c6,c7,c8,c9,c10,c11,c12,c13,c14,c15].drop 6).take (prog.cellsOf 4)=[.bool wa]:=g3;have g4':([c0,c1,c2,c3,c4,c5,c6,c7,c8,c9,c10,c11,c12,c13,c14,c15].drop 7).take (prog.cellsOf 44)=_:=g4;have g5':([c0,c1,c2,c3,c4,c5,c6,c7,c8,c9,c10,c11,c12,c13,c14,c15].drop 14).take (prog.cellsOf 3)=[.int .i64 si]:=g5;have g6':([c0,c1,c2,c3,c4,c5,c6,c7,c8,c9,c10,c11,c12,c13,c14,c15].drop 15).take (prog.cellsOf 3)=[.int .i64 ge]:=g6;rw [e1] at g0';rw [e2] at g1' g5' g6';rw [e3] at g2';rw [e4] at g3';rw [e5] at g4';simp at g0' g1' g2' g3' g4' g5' g6';refine ⟨⟨⟨pa,pb,pc⟩,co,g,wa,q,si,ge⟩,?_,trivial⟩;exact ⟨A1,k1,A2,k2,A3,k3,by
   show [c0,c1,c2,c3,c4,c5,c6,c7,c8,c9,c10,c11,c12,c13,c14,c15]=_;rw [g0'.1,g0'.2.1,g0'.2.2,g1',g2'.1,g2'.2,g3',g4'.1,g4'.2.1,g4'.2.2.1,g4'.2.2.2.1,g4'.2.2.2.2.1,g4'.2.2.2.2.2.1,g4'.2.2.2.2.2.2,g5',g6'],r1,l1,r2,l2,r3.map fun _ _ hx=>qC (by omega) hx,l3⟩
section
variable {H:Type} {enc:TypeId×Value→H} {w:World} {base:Nat} {spare:Nat→Bool} {held:Bool}
theorem D6 {r:Reach} {b0:Nat} {v:Value} {d:DataW H} {p:List MemPlace} (hv:Value.okWide prog w r b0 26 v) (h:DataW.Trod enc prog w base spare held 26 v d p):∃(c:Cs) (D:Nat),∀ρ,(c.a D).rep w (Lo w.heap.size) ρ v:=by
 obtain ⟨cs0,rfl,hsz⟩:=okWide_struct underlying26 hv;obtain ⟨fuel,hf⟩:=h;have hc2:(Value.agg cs0).cells.toList=cs0.toList:=by simp [Value.cells]
 rw [hc2] at hf;obtain ⟨cs⟩:=cs0;obtain ⟨xs,n,hN,_,hl,hlen,hf⟩:=DataW.trod_struct underlying26 hf;have hf:∀i f,_→_:=hf;have hl2:cs.length=3:=hl.trans (by kernel_rfl);have hg:∀(i:Nat) (f:Field),_=some f→∃y,DataW.trod enc prog w base spare held n f.type ((cs.drop f.offset).take (prog.cellsOf f.type))=some y:=fun i f hi=>by
  have h1:=hf i f hi;have h2:i<xs.length:=by rw [hlen];exact (Array.getElem?_eq_some_iff.1 hi).1
  rw [List.getElem?_eq_getElem h2] at h1;exact ⟨_,h1⟩
 match cs,hl2 with
 | [c0,c1,c2],_ =>
  obtain ⟨_,h0⟩:=hg 0 _ rfl;obtain ⟨_,h1⟩:=hg 1 _ rfl;obtain ⟨_,h2⟩:=hg 2 _ rfl;have e1:prog.cellsOf 3=1:=by kernel_rfl
  have e2:prog.cellsOf 23=1:=by kernel_rfl
  have e3:prog.cellsOf 24=1:=by kernel_rfl
  obtain ⟨now,g0,_⟩:=bw underlying3 h0;obtain ⟨qs,⟨A1,k1,g1,a1,b1,r1⟩,_⟩:=(BI.sl underlying23 (by kernel_rfl)) h1;cases n with
  | zero=>simp [DataW.trod] at h2
  | succ n =>
   obtain ⟨ps,⟨A2,k2,g2,a2,b2,r2⟩,_⟩:=(OpensN.sl (D5 n) underlying24 (by kernel_rfl)) h2;have g0':([c0,c1,c2].drop 0).take (prog.cellsOf 3)=[.int .i64 now]:=g0;have g1':([c0,c1,c2].drop 1).take (prog.cellsOf 23)=[.slice A1 qs.length k1]:=g1;have g2':([c0,c1,c2].drop 2).take (prog.cellsOf 24)=[.slice A2 ps.length k2]:=g2;rw [e1] at g0';rw [e2] at g1';rw [e3] at g2';simp at g0' g1' g2';exact ⟨⟨now,qs,ps⟩,n,fun ρ=>⟨[c0,c1,c2],rfl,g0',⟨A1,k1,g1',⟨a1,b1⟩,r1⟩,⟨A2,k2,g2',⟨a2,b2⟩,r2⟩,trivial⟩⟩
theorem D7 {r:Reach} {b0:Nat} {v:Value} {d:DataW H} {p:List MemPlace} (hv:Value.okWide prog w r b0 46 v) (h:DataW.Trod enc prog w base spare held 46 v d p):∃(k:Cm) (D:Nat),∀ρ,(k.a D).rep w (Lo w.heap.size) ρ v:=by
 obtain ⟨cs0,rfl,hsz⟩:=okWide_struct underlying46 hv;obtain ⟨fuel,hf⟩:=h;have hc2:(Value.agg cs0).cells.toList=cs0.toList:=by simp [Value.cells]
 rw [hc2] at hf;obtain ⟨cs⟩:=cs0;obtain ⟨xs,n,hN,_,hl,hlen,hf⟩:=DataW.trod_struct underlying46 hf;have hf:∀i f,_→_:=hf;have hl2:cs.length=13:=hl.trans (by kernel_rfl);have hg:∀(i:Nat) (f:Field),_=some f→∃y,DataW.trod enc prog w base spare held n f.type ((cs.drop f.offset).take (prog.cellsOf f.type))=some y:=fun i f hi=>by
  have h1:=hf i f hi;have h2:i<xs.length:=by rw [hlen];exact (Array.getElem?_eq_some_iff.1 hi).1
  rw [List.getElem?_eq_getElem h2] at h1;exact ⟨_,h1⟩
 match cs,hl2 with
 | [c0,c1,c2,c3,c4,c5,c6,c7,c8,c9,c10,c11,c12],_ =>
  obtain ⟨_,h0⟩:=hg 0 _ rfl;obtain ⟨_,h1⟩:=hg 1 _ rfl;obtain ⟨_,h2⟩:=hg 2 _ rfl;obtain ⟨_,h3⟩:=hg 3 _ rfl;obtain ⟨_,h4⟩:=hg 4 _ rfl;have e1:prog.cellsOf 35=3:=by kernel_rfl
  have e2:prog.cellsOf 3=1:=by kernel_rfl
  have e3:prog.cellsOf 44=7:=by kernel_rfl
  have e4:prog.cellsOf 9=1:=by kernel_rfl
  obtain ⟨kd,g0,_⟩:=bw underlying3 h0;obtain ⟨⟨pa,pb,pc⟩,g1,_⟩:=nj h1;obtain ⟨q,D,A3,k3,g2,l3,r3,_⟩:=nO h2;obtain ⟨nm,g3,_⟩:=lH underlying9 h3;obtain ⟨nn,g4,_⟩:=bw underlying3 h4;have g0':([c0,c1,c2,c3,c4,c5,c6,c7,c8,c9,c10,c11,c12].drop 0).take (prog.cellsOf 3)=[.int .i64 kd]:=g0;have g1':([c0,c1,c2,c3,c4,c5,c6,c7,c8,c9,c10,c11,c12].drop 1).take (prog.cellsOf 35)=[.int .i64 pa,.int .i64 pb,.int .i64 pc]:=g1;have g2':([c0,c1,c2,c3,c4,c5,c6,c7,c8,c9,c10,c11,c12].drop 4).take (prog.cellsOf 44)=_:=g2;have g3':([c0,c1,c2,c3,c4,c5,c6,c7,c8,c9,c10,c11,c12].drop 11).take (prog.cellsOf 9)=[.string nm]:=g3;have g4':([c0,c1,c2,c3,c4,c5,c6,c7,c8,c9,c10,c11,c12].drop 12).take (prog.cellsOf 3)=[.int .i64 nn]:=g4;rw [e2] at g0' g4';rw [e1] at g1';rw [e3] at g2';rw [e4] at g3';simp at g0' g1' g2' g3' g4';exact ⟨⟨kd,⟨pa,pb,pc⟩,q,nm,nn⟩,D,fun ρ=>⟨[c0,c1,c2,c3,c4,c5,c6,c7,c8,c9,c10,c11,c12],rfl,g0',g1'.1,g1'.2.1,g1'.2.2,g2'.1,g2'.2.1,g2'.2.2.1,g2'.2.2.2.1,⟨A3,k3,g2'.2.2.2.2.1,l3,r3⟩,g2'.2.2.2.2.2.1,g2'.2.2.2.2.2.2,g3',g4',trivial⟩⟩
end
theorem Cm.up {d d':Nat} (hd:d≤d') {w:World} {S:Nat→Prop} {ρ:Nat→Value} {k:Cm} {v:Value} (h:(k.a d).rep w S ρ v):(k.a d').rep w S ρ v:=by
 obtain ⟨cs,e,hA⟩:=h
 match cs,hA with
 | [_,_,_,_,_,_,_,_,_,_,_,_,_],⟨k0,k1,k2,k3,k4,k5,k6,k7,⟨A,cap,e1,e2,h3⟩,k9,k10,k11,k12,_⟩ =>
  exact ⟨_,e,k0,k1,k2,k3,k4,k5,k6,k7,⟨A,cap,e1,e2,h3.map fun _ _ hx=>qC hd hx⟩,k9,k10,k11,k12,trivial⟩
end
section
variable {P:Program} {o:Oper} {s:Mst} {α:Type} {E:El α}
theorem pM {w:World} {base:Nat} {e:TypeId} {n N m cap:Nat} {A:Option Addr} {xs:List Value} (h:w.ownsRow base e n (.slice A N cap) N xs) (hm:m≤N) (h0:0<N):w.ownsRow base e n (.slice A m cap) m (xs.take (m*n)):=by
 obtain ⟨h1,h2⟩:=h;have hmn:m*n≤N*n:=Nat.mul_le_mul_right n hm;refine ⟨by rw [List.length_take,h1];omega,.inr ?_⟩;rcases h2 with ⟨_,hN⟩|⟨g,cap',cur,hv,hb,hh,hc,hcm,hcs,ht⟩
 ·omega
 ·injection hv with e1 _ e3;subst e1;subst e3;exact ⟨g,cap,cur,rfl,hb,hh,by omega,hcm,hcs,by rw [←ht,List.take_take,Nat.min_eq_left hmn]⟩
end
section
variable {P:Program} {f:FuncId} {e:TypeId} {α:Type} {E:El α} {l l':List α}
theorem t7 {ars:List V0} {hb:List (Nat×Box)} (hen:∀(vs:Array Value) (w:World),(callFunc f vs).run P w = .ok (.enter f vs) w) (hk1:aK (av hb) 1=false)
  (h:∀(w:World) (F:Nat→Prop) (ρ:Nat→Value) (vs xs:List Value),w.ownsRow 0 e E.n (ρ 1) l.length xs→Reps E w F l xs→(∀b,F b→b<w.heap.size∧kb (ρ 1)≠some b)→
   All2 (fun d v=>V0.rep w F ρ d v) ars vs→(∀k b,dU hb k=some b→b.rep w F ρ (ρ k)∧∀g,kb (ρ k)=some g→kb (ρ 1)≠some g)→
   Calls P f (ρ 1 :: vs).toArray w fun e' w'=>∃v' ys,e' = .returned v'∧Frx w w' (fun b=>kb (ρ 1)=some b)∧(∀g,kb v'=some g→g<w'.heap.size∧(w.heap.size≤g∨kb (ρ 1)=some g))∧w'.ownsRow 0 e E.n v' l'.length ys∧
    ∀F':Nat→Prop,(∀b,F b→F' b∧w'.heap[b]? = w.heap[b]?)→Reps E w' F' l' ys) :
  FSpec P f (.one (.own 1) :: ars) ((1,.arr e E l) :: hb) [2] (.c (.own 2)) ((2,some (.arr e E l')) :: (1,none) :: j7 (av hb)):=by
 refine ⟨hen,fun q c st ρ a w vs hr hinj hargs hhin hus=>?_⟩
 match vs,hargs with
 | v :: vs,⟨h0,hargs⟩ =>
  obtain rfl:v=ρ (q 1):=h0;have hk:=hhin 1 _ rfl;obtain ⟨xs,hx1,hx2⟩:=hr.hp (q 1) _ hk;have hf2:st.f (q 2)=true:=hus 2 rfl;have hq12:(q 2).beq (q 1)=false:=by
   cases h9:(q 2).beq (q 1) with
   | false=>rfl
   | true=>rw [Nat.eq_of_beq_eq_true h9,hr.nfh hk] at hf2;cases hf2
  refine (h w (Fz c st.h ρ w) (fun k=>ρ (q k)) vs xs hx1 hx2 (fun b hb=>⟨hb.2.1,hb.2.2 _ _ hk⟩) (All2.imp hargs fun d v _ hd=>(V0.rep_ren (q:=q) (ρ':=fun k=>ρ (q k)) fun _ _=>rfl).1 hd) (fun k b hg=>?_)).mono ?_
  ·have hne:(1:Nat).beq k=false:=by
    cases h9:(1:Nat).beq k with
    | false=>rfl
    | true =>
     exfalso;rw [←Nat.eq_of_beq_eq_true h9] at hg;have:∀(m:List (Nat×Box)),aK (av m) 1=false→dU m 1=none:=by
      intro m;induction m with
      | nil=>intro _;rfl
      | cons y m ih =>
       intro hm;simp only [av,List.map_cons,aK,Bool.or_eq_false_iff] at hm;simp only [dU,hm.1,cond_false];exact ih hm.2
     rw [this hb hk1] at hg;cases hg
   have hin:aK (av hb) k=true:=by
    have:∀(m:List (Nat×Box)),dU m k=some b→aK (av m) k=true:=by
     intro m;induction m with
     | nil=>intro h;cases h
     | cons y m ih =>
      intro hm;simp only [av,List.map_cons,aK,Bool.or_eq_true];cases h9:y.1.beq k with
      | true=>exact .inl rfl
      | false =>
       simp only [dU,h9,cond_false] at hm;exact .inr (ih hm)
    exact this hb hg
   have hk':=hhin k b (by simp only [dU,hne,cond_false];exact hg);refine ⟨(Box.rep_ren (q:=q) (ρ':=fun k=>ρ (q k)) fun _ _=>rfl).1 (hr.hp _ _ hk'),fun g h1 h2=>?_⟩;have e1:=hinj k 1 (by rw [bC] at hin ⊢;exact List.mem_append_left _ (List.mem_cons_of_mem _ hin)) rfl (hr.dis _ _ _ _ g hk' hk h1 h2);subst e1;cases hne
  ·rintro e' w' ⟨v',ys,rfl,hf,hkb,hy1,hy2⟩;have hou:el q ((2,some (.arr e E l')) :: (1,none) :: j7 (av hb))=(q 2,some (.arr e E l')) :: j7 ((1 :: av hb).map q):=by
    simp [el,j7,Box.ren,av,Function.comp_def]
   refine ⟨v',rfl,fun dst hdst=>⟨upd ρ (q 2) v',?_⟩⟩;rw [hou];obtain ⟨hs,hhs⟩:∃hs,(q 2,some (Box.arr e E l')) :: j7 ((1 :: av hb).map q)=hs:=⟨_,rfl⟩;rw [hhs];have hsm:∀n bx,aA hs n=true→hput hs st.h n=some bx→n=q 2∧bx = .arr e E l':=fun n bx hn hp=>by
    subst hhs;cases h9:(q 2).beq n with
    | true =>
     simp only [hput,h9,cond_true,Option.some.injEq] at hp;exact ⟨(Nat.eq_of_beq_eq_true h9).symm,hp.symm⟩
    | false =>
     simp only [aA,h9,Bool.false_or] at hn;simp only [hput,h9,cond_false] at hp;rw [fH (by rw [←dv];exact hn)] at hp;cases hp
   have hke:∀n,aA hs n=true→n=q 2∨∃bx,st.h n=some bx:=fun n hn=>by
    subst hhs;cases h9:(q 2).beq n with
    | true=>exact .inl (Nat.eq_of_beq_eq_true h9).symm
    | false =>
     right
     simp only [aA,h9,Bool.false_or,dv] at hn;have:∃k,k∈(1 :: av hb)∧q k=n:=by
      have h8:∀(m:List Nat),aK (m.map q) n=true→∃k,k∈m∧q k=n:=by
       intro m;induction m with
       | nil=>intro h;cases h
       | cons y m ih =>
        intro hm;simp only [List.map_cons,aK,Bool.or_eq_true] at hm;rcases hm with hm|hm
        ·exact ⟨y,by simp,Nat.eq_of_beq_eq_true hm⟩
        ·obtain ⟨k,k1,k2⟩:=ih hm;exact ⟨k,by simp [k1],k2⟩
      exact h8 _ hn
     obtain ⟨k,hkm,rfl⟩:=this;rcases List.mem_cons.1 hkm with rfl|hkm
     ·exact ⟨_,hk⟩
     ·obtain ⟨b,hb⟩:∃b,dU ((1,.arr e E l) :: hb) k=some b:=by
       have:∀(m:List (Nat×Box)),k∈av m→∃b,dU m k=some b:=by
        intro m;induction m with
        | nil=>intro h;cases h
        | cons y m ih =>
         intro hm;cases h7:y.1.beq k with
         | true=>exact ⟨y.2,by simp only [dU,h7,cond_true]⟩
         | false =>
          rcases List.mem_cons.1 hm with h6|h6
          ·rw [h6,Nat.beq_refl] at h7;cases h7
          ·obtain ⟨b,hb⟩:=ih h6;exact ⟨b,by simp only [dU,h7,cond_false];exact hb⟩
       exact this _ (List.mem_cons_of_mem _ hkm)
      exact ⟨_,hhin k b hb⟩
   have hkq1:aA hs (q 1)=true:=by
    subst hhs;simp [aA,dv,aK]
   have hFz:∀b,Fz c st.h ρ w b→Fz c (hput hs st.h) (upd ρ (q 2) v') w' b∧w'.heap[b]? = w.heap[b]?:=fun b hb=>by
    refine ⟨⟨hb.1,Nat.lt_of_lt_of_le hb.2.1 hf.size,fun n bx hn he=>?_⟩,hf.keep b hb.2.1 fun he=>hb.2.2 _ _ hk he⟩;cases h9:aA hs n with
    | true =>
     obtain ⟨rfl,_⟩:=hsm n bx h9 hn;rw [aI] at he;rcases (hkb b he).2 with h|h
     ·have:=hb.2.1;omega
     ·exact hb.2.2 _ _ hk h
    | false =>
     rw [bN h9] at hn;have hkn:(q 2).beq n=false:=by
      cases h8:(q 2).beq n with
      | false=>rfl
      | true=>rw [←Nat.eq_of_beq_eq_true h8,hr.wf.h _ hf2] at hn;cases hn
     rw [df hkn] at he;exact hb.2.2 n bx hn he
   refine hr.app (ρ':=upd ρ (q 2) v') (e:=⟨(TV.c (.own 2)).ren q,hs,[2].map q⟩) hdst (fun n hn=>?_) (fun n hn=>df (by simpa [aK] using hn)) (fun n hn=>?_) ⟨hf.os,hf.tape,hf.output,hf.size,fun b hlt hn=>hf.keep b hlt fun e=>hn ⟨q 1,_,hkq1,hk,e⟩⟩ (fun n bx g' hn hb hg=>?_) (fun n n' b b' g hn hn' hb hb' _ _=>?_) (fun n hn=>.inl ?_) (fun n n' bx hn hb hx2=>?_) (fun n bx hn hb=>?_) ?_
   ·obtain rfl:q 2=n:=by simp [aK] at hn;exact hn
    exact ⟨hf2,by subst hhs;simp [aA]⟩
   ·rcases hke n hn with rfl|⟨bx,hbx⟩
    ·exact .inl (by simp [aK])
    ·exact .inr (hr.nfh hbx)
   ·obtain ⟨rfl,_⟩:=hsm n bx hn hb;rw [aI] at hg;exact ⟨(hkb g' hg).1,(hkb g' hg).2.imp id fun h=>⟨q 1,_,hkq1,hk,h⟩⟩
   ·rw [(hsm n b hn hb).1,(hsm n' b' hn' hb').1]
   ·obtain rfl:q 2=n:=by simpa [TV.ren,V0.ren,D.ren,TV.has,V0.has,D.has] using hn
    simp [aK]
   ·rw [(hsm n' bx hn hb).2] at hx2;simp [Box.has] at hx2
   ·obtain ⟨rfl,rfl⟩:=hsm n bx hn hb;rw [aI];exact ⟨ys,hy1,hy2 _ hFz⟩
   ·exact (aI ρ (q 2) v').symm
end
section
variable {w:World} {base:Nat} {e:TypeId} {N n cap:Nat} {A:Option Addr} {xs:List Value}
theorem lF {g:Nat} (h:w.ownsRow base e N (.slice (some ⟨g,0,none⟩) n cap) n xs):∃ys,w.ownsRow base e N (.slice (some ⟨g,0,none⟩) cap cap) cap ys∧ys.take (n*N)=xs∧n≤cap∧cap≤maxLen∧g<w.heap.size:=by
 obtain ⟨h1,h2⟩:=h;rcases h2 with ⟨hv,_⟩|⟨g',cap',cur,hv,hg,hh,hnc,hcm,hcs,ht⟩
 ·cases hv
 ·injection hv with e1 _ e3;injection e1 with e1;injection e1 with e1;subst e1;subst e3;refine ⟨cur.toList,⟨by simpa using hcs,.inr ⟨_,_,cur,rfl,hg,hh,Nat.le_refl _,hcm,hcs,?_⟩⟩,ht,hnc,hcm,(Array.getElem?_eq_some_iff.1 hh).1⟩;rw [←hcs];exact List.take_of_length_le (by simp)
theorem dF {g:Nat} (h:w.ownsRow base e N (.slice (some ⟨g,0,none⟩) n cap) n xs) {j:Nat} (hj:j<cap*N):(w.cell? ⟨g,j,none⟩).isSome=true∧w.frozen? ⟨g,j,none⟩=false:=by
 obtain ⟨h1,h2⟩:=h;rcases h2 with ⟨hv,_⟩|⟨g',cap',cur,hv,hg,hh,hnc,hcm,hcs,ht⟩
 ·cases hv
 ·injection hv with e1 _ e3;injection e1 with e1;injection e1 with e1;subst e1;subst e3;refine ⟨?_,frozen_of_row w _ j cur e hh⟩;have:w.cell? ⟨g,j,none⟩=cur[j]?:=by simp [World.cell?,hh]
  rw [this,Array.getElem?_eq_getElem (by rw [hcs];exact hj)];rfl
theorem n5 {g:Nat} (h:w.ownsRow base e N (.slice (some ⟨g,0,none⟩) n cap) n xs) {q:Nat} {u:Value} (hu:xs[q]? = some u):w.cell? ⟨g,q,none⟩=some u:=by
 have:=h.cells rfl _ _ hu
 rwa [ew,Nat.zero_add] at this
theorem n7 (h:w.ownsRow base e N (.slice A n cap) n xs):xs.length=n*N:=h.1
theorem rJ {g:Nat} (h:w.ownsRow base e N (.slice (some ⟨g,0,none⟩) n cap) n xs) (vs:List Value) {j:Nat} (hj:j+vs.length≤xs.length):(w.setCells g j vs).ownsRow base e N (.slice (some ⟨g,0,none⟩) n cap) n (xs.take j++vs++xs.drop (j+vs.length)):=fp vs j w xs h hj
theorem gi {g:Nat}:∀(vs:List Value) (j:Nat) (w:World),(w.setCells g j vs).os=w.os∧(w.setCells g j vs).tape=w.tape∧(w.setCells g j vs).output=w.output
 | [],_,_=>⟨rfl,rfl,rfl⟩
 | v :: r,j,w=>by rw [World.setCells];exact gi r (j+1) _
theorem gV (w:World) (g j:Nat) (vs:List Value):Frx w (w.setCells g j vs) fun b=>b=g :=
 ⟨(gi vs j w).1,(gi vs j w).2.1,(gi vs j w).2.2,by rw [bO];exact Nat.le_refl _,fun b _ hn=>bM vs j w b hn⟩
theorem Frx.trans {w1 w2 w3:World} {M:Nat→Prop} (h:Frx w1 w2 M) (k:Frx w2 w3 M):Frx w1 w3 M :=
 ⟨k.os.trans h.os,k.tape.trans h.tape,k.output.trans h.output,Nat.le_trans h.size k.size,fun b hb hn=>(k.keep b (Nat.lt_of_lt_of_le hb h.size) hn).trans (h.keep b hb hn)⟩
end
end Go.Proofs.YtjndcdcbjidocaaGreatDoor
