/- Part 16 of 35 of the proof of centralNew_holds (no condition). -/
import Derived.Test.YtjndcdcbjidocaaGreatDoorK15
set_option linter.unusedVariables false
set_option linter.unusedSimpArgs false
set_option maxRecDepth 100000
set_option maxHeartbeats 64000000
namespace Go.Proofs.YtjndcdcbjidocaaGreatDoor
open Go.RowKit Go.Proofs.Tryz
theorem mM (w:Wk) (t:List Qu) (ev:List Ev):(w.take t ev).ev.length=w.ev.length+ev.length:=List.length_append
theorem Da (w:Wk) (p:Pr) (n:ByteArray):(fg w p n).ev.length≤w.ev.length+17:=by
 unfold fg gW
 cases (ap (aX w.c.queues n) p).isSome with
 | false=>simp
 | true=>rw [cond_true,mM];have:=ow w.c.queues p n;omega
theorem mN (w:Wk) (p:Pr) (n:ByteArray) (l:Am):(cd w p n l).ev.length≤w.ev.length+18:=by
 unfold cd fe
 cases decide (aq (aX w.c.queues n).holds p=l) with
 | true=>simp
 | false=>rw [cond_false,mM];have:=qn w.c.queues p ⟨n,l⟩;omega
theorem iE (w:Wk) (x:Pc) (n:ByteArray):(bw w x n).ev.length≤w.ev.length+35:=by
 unfold bw
 have h1:=Da w x.proc n
 have h2:=mN (fg w x.proc n) x.proc n (az x.led.entries n)
 omega
theorem sR (x:Pc):∀(l:List Tm) (w:Wk),(c9 x l w).ev.length≤w.ev.length+35*l.length
 | [],w=>by simp [c9]
 | a :: l,w=>by
  have h1:=iE w x a.name
  have h2:=sR x l (bw w x a.name)
  show (c9 x l (bw w x a.name)).ev.length≤_
  rw [List.length_cons]
  omega
theorem zb (w:Wk) (i:Nat) (p:Pr) (n:ByteArray):(gS w i p n).ev=w.ev:=by
 unfold gS
 cases decide (aq (aX w.c.queues n).holds p=az (w.pc i).led.entries n) <;> rfl
theorem Db (w:Wk) (i:Nat) (p:Pr) (n:ByteArray):(gS w i p n).c.procs.length=w.c.procs.length:=by
 unfold gS
 cases decide (aq (aX w.c.queues n).holds p=az (w.pc i).led.entries n)
 ·exact wu _ _ _
 ·rfl
theorem qE (x:Pc) (i:Nat):∀(l:List Tm) (bs:List Bool) (w:Wk),(dm x i l bs w).ev.length≤w.ev.length+35*l.length∧(dm x i l bs w).c.procs.length=w.c.procs.length
 | [],bs,w=>by cases bs <;> exact ⟨by simp [dm],rfl⟩
 | a :: l,[],w=>⟨by simp [dm],rfl⟩
 | a :: l,b :: bs,w=>by
  have h2:=qE x i l bs (bif b then gS w i x.proc a.name else bw w x a.name)
  have h3:(bif b then gS w i x.proc a.name else bw w x a.name).ev.length≤w.ev.length+35∧(bif b then gS w i x.proc a.name else bw w x a.name).c.procs.length=w.c.procs.length:=by
   cases b with
   | true=>exact ⟨by rw [cond_true,zb];omega,Db _ _ _ _⟩
   | false=>exact ⟨iE w x a.name,congrArg List.length (jS w x a.name)⟩
  show (dm x i l bs (bif b then gS w i x.proc a.name else bw w x a.name)).ev.length≤_∧(dm x i l bs (bif b then gS w i x.proc a.name else bw w x a.name)).c.procs.length=_
  rw [List.length_cons]
  omega
theorem mO (w:Wk) (k:Int) (p:Pr):(w.note k p).ev.length=w.ev.length+1:=by unfold Wk.note;simp
theorem zc (w:Wk) (i:Nat):(g8 w i).ev.length≤w.ev.length+281:=by
 have h1:=(qE (w.pc i) i (cj (w.pc i).req.expr) (cW (w.pc i).req.expr (bd w.c.queues (w.pc i).proc (w.pc i).req.expr)) (w.note 2 (w.pc i).proc)).1
 rw [mO] at h1
 have h2:=dN (w.pc i).req.expr
 show (dm (w.pc i) i (cj (w.pc i).req.expr) (cW (w.pc i).req.expr (bd w.c.queues (w.pc i).proc (w.pc i).req.expr)) (w.note 2 (w.pc i).proc)).ev.length≤_
 omega
theorem qF:∀(n:Nat) (w:Wk),(a8 n w).ev.length≤w.ev.length+281*n
 | 0,w=>by simp [a8]
 | n+1,w=>by
  unfold a8
  cases fU w.c.queues 0 w.c.procs with
  | none=>dsimp only;omega
  | some i =>
   have h1:=zc w i
   have h2:=qF n (g8 w i)
   dsimp only
   omega
theorem jb (w:Wk) (i:Nat):(aC w i).ev.length≤w.ev.length+280:=by
 have h1:=sR (w.pc i) (cj (w.pc i).req.expr) w
 have h2:=dN (w.pc i).req.expr
 show (c9 (w.pc i) (cj (w.pc i).req.expr) w).ev.length≤_
 omega
theorem qG (p:Pr) (prio:Int):∀(l:List Tm) (w:Wk),(cE p prio l w).ev.length≤w.ev.length+18*l.length
 | [],w=>by simp [cE]
 | a :: l,w=>by
  have h1:=qC w.c.queues p a prio
  have h2:=qG p prio l (w.take (bJ w.c.queues p a prio).1 (bJ w.c.queues p a prio).2.1)
  rw [mM] at h2
  show (cE p prio l (w.take (bJ w.c.queues p a prio).1 (bJ w.c.queues p a prio).2.1)).ev.length≤_
  rw [List.length_cons]
  omega
theorem qH (p:Pr):∀(l:List Tm) (w:Wk),(bP p l w).ev.length≤w.ev.length+18*l.length
 | [],w=>by simp [bP]
 | a :: l,w=>by
  have h1:=mN w p a.name a.am
  have h2:=qH p l (cd w p a.name a.am)
  show (bP p l (cd w p a.name a.am)).ev.length≤_
  rw [List.length_cons]
  omega
theorem DrT.ok {x:Pc}:∀{l:List Tm} {w:Wk},DrT x l w→w.ev.length+35*l.length≤900000→Fa x l w
 | [],_,_,_=>trivial
 | a :: l,w,h,he=>by
  rw [List.length_cons] at he
  have h1:=iE w x a.name
  exact ⟨h.1,h.2.1,by omega,h.2.2.ok (by omega)⟩
theorem FinT.ok {x:Pc} {i:Nat}:∀{l:List Tm} {bs:List Bool} {w:Wk},FinT x i l bs w→w.ev.length+35*l.length≤900000→CO x i l bs w
 | [],bs,_,_,_=>by cases bs <;> trivial
 | a :: l,[],_,_,_=>trivial
 | a :: l,b :: bs,w,h,he=>by
  rw [List.length_cons] at he
  have h3:(bif b then gS w i x.proc a.name else bw w x a.name).ev.length≤w.ev.length+35:=by
   cases b with
   | true=>rw [cond_true,zb];omega
   | false=>exact iE w x a.name
  exact ⟨h.1,h.2.1,by omega,h.2.2.1,h.2.2.2.ok (by omega)⟩
theorem LwT.ok {p:Pr}:∀{l:List Tm} {w:Wk},LwT p l w→w.ev.length+18*l.length≤900000→AI p l w
 | [],_,_,_=>trivial
 | a :: l,w,h,he=>by
  rw [List.length_cons] at he
  have h1:=mN w p a.name a.am
  exact ⟨h.1,by omega,h.2.ok (by omega)⟩
theorem AM {w:Wk} (h:CI w.c):(a8 w.c.procs.length w).ev.length≤w.ev.length+2248:=by
 have:=qF w.c.procs.length w
 have:=h.len
 omega
theorem Kw {c:Cs} (h:CI c):IV c.procs:=fun x hx=>by
 have hi:=h.inv x hx
 have hn:=h.now
 cases hw:x.waiting with
 | false =>
  obtain ⟨h1,h2,_⟩:=hi.run hw
  rw [h1,h2]
  simp [Rq.zero]
 | true =>
  obtain ⟨h1,_⟩:=hi.wat hw
  have h2:=h1.rq
  have h3:=h1.sn
  unfold oM at h2
  simp only [Bool.and_eq_true,decide_eq_true_eq] at h2
  omega
theorem mP (p:Pr):∀t:List Qu,(∀q∈t,ax q=true)→(aW p t).2.length≤18*t.length
 | [],_=>by simp [aW]
 | q :: l,h=>by
  have ih:=mP p l fun x hx=>h x (by simp [hx])
  have h1:=oq (h q (by simp)) p
  have e:aW p (q :: l)=bif !fu q p then (q :: (aW p l).1,(aW p l).2) else
   ((ba q p).1 :: (aW p l).1,(bif aG (aq q.holds p) then [] else [⟨3,p,q.res.name,⟨0,0⟩⟩])++aV (ba q p).1.res.name (ba q p).2.1++(aW p l).2):=rfl
  rw [e,List.length_cons]
  cases (!fu q p) with
  | true=>rw [cond_true];dsimp only;omega
  | false =>
   rw [cond_false]
   cases aG (aq q.holds p) <;> simp [fX] <;> omega
theorem wB (t:List Qu) (p:Pr):(cf t p).2.length≤144:=by
 unfold cf
 cases hv:df t with
 | false=>simp
 | true =>
  have:=mP p t fun q hq=>cA hv hq
  have:=(bD hv).1
  rw [Bool.not_true,cond_false]
  omega
theorem J1 {c:Cs} (h:CI c) (p:Pr):I1 p c.procs:=fun i j hi hj hij hk=>by
 by_cases e:i=j
 ·subst e;exact hk
 ·have ha:=List.pairwise_iff_getElem.1 h.asc i j (by simpa using hi) (by simpa using hj) (by omega)
  simp only [List.getElem_map] at ha
  rcases cM c.procs[i].proc p with ⟨_,k1⟩|⟨_,k1⟩|⟨k0,_⟩
  ·omega
  ·omega
  ·rcases cM c.procs[j].proc p with ⟨k2,_⟩|⟨k2,_⟩|⟨_,k3⟩
   ·exact absurd (cq (cq k0 ha) k2) (bp _)
   ·exact absurd (k2▸cq k0 ha) (bp _)
   ·omega
def Cm.d (d:Nat) (k:Cm):List D:=[.sc (.int .i64 k.kind),.sc (.int .i64 k.proc.site),.sc (.int .i64 k.proc.inc),.sc (.int .i64 k.proc.num),.sc (.int .i64 k.req.expr.k),.sc (.string k.req.expr.atom.name),.sc (.int .i64 k.req.expr.atom.am.mode),.sc (.int .i64 k.req.expr.atom.am.units),.sl (mY d) k.req.expr.kids,.sc (.int .i64 k.req.prio),.sc (.int .i64 k.req.limit),.sc (.string k.name),.sc (.int .i64 k.n)]
def Cm.a (d:Nat) (k:Cm):V0:=.ag (k.d d)
theorem oD (q:Qu) (x:Pc) (a:Tm) (l:List Tm):bS q x (a :: l)=bif !aY a.name q.res.name || bb q.res (az x.led.entries q.res.name) a.am then bS q x l else
  bif !(ap q x.proc).isSome then decide (aq q.holds x.proc=bB q.res (az x.led.entries q.res.name) a.am) else
  bif q.waits.any (fun y=>decide (y.proc=x.proc) && !decide (y.prio=x.req.prio)) then false else
  decide (aq q.holds x.proc=az x.led.entries q.res.name) && decide (ap q x.proc=some (bB q.res (az x.led.entries q.res.name) a.am)):=rfl
theorem I3 (d:Nat) (q:Qu) (x:Pc) (L:List Tm):FSpec prog 76 [q.a,x.a d,.one (.sl bV L)] [] [] (.b (bS q x L)) []:=by
 refine aS func76 ?_
 refine aH (fun c ρ a w hr=>bh (t:=2) hr rfl) (fun hl2=>?_)
 refine aH (fun c ρ a w hr=>cR (t:=0) (i:=6) hr rfl rfl) (fun hl0_6=>?_)
 obtain ⟨b,hB⟩:∃b,bS q x L=b:=⟨_,rfl⟩
 rw [hB]
 obtain ⟨l,hl⟩:∃l,az x.led.entries q.res.name=l:=⟨_,rfl⟩
 obtain ⟨h,hh⟩:∃h,aq q.holds x.proc=h:=⟨_,rfl⟩
 have kH:=CA q x.proc
 have kL:=t7 x.led.entries q.res.name
 rw [hh] at kH
 rw [hl] at kL
 obtain ⟨o,hw⟩:∃o,ap q x.proc=o:=⟨_,rfl⟩
 have kW:=qg q x.proc hw
 obtain ⟨iw,hiw⟩:∃iw,o.isSome=iw:=⟨_,rfl⟩
 rw [hiw] at kW
 cases iw with
 | false =>
  obtain rfl:o=none:=by cases o with
   | none=>rfl
   | some=>cases hiw
  repeat' (first
   | refine ah ?_ ?_
   | (refine aa 9 rfl ?_;first
    | (refine cB [] (kH) ?_)
    | (refine cB [] (kL) ?_)
    | (refine cB [] (kW) ?_))
   | refine af ?_
   | exact ai|refine ae fun hb=>?_)
  refine aj (fun i=>i≤L.length∧bS q x (L.drop i)=b) (fun i=>bH [3,4,7,8,9] [(2,.c (.sl bV L)),(3,.c (.ptr 3 0)),(4,.c (.ptr 4 0)),(7,.c (.ptr 7 0)),(8,.c (.ptr 8 0)),(9,.c (.ptr 9 0)),(10,.b false),(11,.i i)] [(3,.box 81 q.d),(4,.box 63 (x.d d)),(7,.box 37 [.sc (.int .i64 l.mode),.sc (.int .i64 l.units)]),(8,.box 37 [.sc (.int .i64 h.mode),.sc (.int .i64 h.units)]),(9,.box 37 [.any,.any])]) (fun i=>L.length-i) 0 ⟨Nat.zero_le _,hB⟩ (by exact ao (qf [])) ?_
  rintro i ⟨hi,hs⟩
  by_cases hlt:i<L.length
  ·obtain ⟨a,ha⟩:∃a,L[i]=a:=⟨_,rfl⟩
   have hga:L[i]? = some a:=by rw [List.getElem?_eq_getElem hlt,ha]
   rw [List.drop_eq_getElem_cons hlt,ha,oD,hl,hh,hw] at hs
   by_cases hnm:a.name.toList=q.res.name.toList
   ·rw [show aY a.name q.res.name=true by simp [aY,hnm]] at hs
    cases hcv:bb q.res l a.am with
    | true =>
     rw [hcv] at hs
     repeat' (first
      | refine ah ?_ ?_
      | refine aa 9 rfl (cB [] (fM q.res l a.am) ?_)
      | refine af ?_
      | exact ai|refine ae fun hb=>?_)
     refine ⟨i+1,⟨by omega,hs⟩,by omega,?_⟩
     exact ao (qf [])
    | false =>
     rw [hcv] at hs
     simp at hs
     rw [←hs]
     repeat' (first
      | refine ah ?_ ?_
      | (refine aa 9 rfl ?_;first
       | (refine cB [] (fM q.res l a.am) ?_)
       | (refine cB [] (Gb q.res l a.am) ?_))
      | refine af ?_
      | exact ai|refine ae fun hb=>?_
      | (refine aE (qf []) ?_;exact ab))
   ·rw [show aY a.name q.res.name=false by simp [aY,hnm]] at hs
    repeat' (first
     | refine ah ?_ ?_
     | refine aa 9 rfl (cB [] (fM q.res l a.am) ?_)
     | refine af ?_
     | exact ai|refine ae fun hb=>?_)
    refine ⟨i+1,⟨by omega,hs⟩,by omega,?_⟩
    exact ao (qf [])
  ·rw [List.drop_eq_nil_of_le (by omega),show bS q x []=(decide (aq q.holds x.proc=az x.led.entries q.res.name) && !(ap q x.proc).isSome) from rfl,hh,hl,hw] at hs
   simp at hs
   rw [←hs]
   repeat' (first
    | refine ah ?_ ?_
    | refine af ?_
    | exact ai|refine ae fun hb=>?_)
   all_goals (refine dD ?_;simp [*])
 | true =>
  obtain ⟨m,rfl⟩:∃m,o=some m:=by cases o with
   | none=>cases hiw
   | some m=>exact ⟨m,rfl⟩
  repeat' (first
   | refine ah ?_ ?_
   | (refine aa 9 rfl ?_;first
    | (refine cB [] (kH) ?_)
    | (refine cB [] (kL) ?_)
    | (refine cB [] (kW) ?_))
   | refine af ?_
   | exact ai|refine ae fun hb=>?_)
  refine aj (fun i=>i≤L.length∧bS q x (L.drop i)=b) (fun i=>bH [3,4,7,8,9] [(2,.c (.sl bV L)),(3,.c (.ptr 3 0)),(4,.c (.ptr 4 0)),(7,.c (.ptr 7 0)),(8,.c (.ptr 8 0)),(9,.c (.ptr 9 0)),(10,.b true),(11,.i i)] [(3,.box 81 q.d),(4,.box 63 (x.d d)),(7,.box 37 [.sc (.int .i64 l.mode),.sc (.int .i64 l.units)]),(8,.box 37 [.sc (.int .i64 h.mode),.sc (.int .i64 h.units)]),(9,.box 37 [.sc (.int .i64 m.mode),.sc (.int .i64 m.units)])]) (fun i=>L.length-i) 0 ⟨Nat.zero_le _,hB⟩ (by exact ao (qf [])) ?_
  rintro i ⟨hi,hs⟩
  by_cases hlt:i<L.length
  case neg =>
   rw [List.drop_eq_nil_of_le (by omega),show bS q x []=(decide (aq q.holds x.proc=az x.led.entries q.res.name) && !(ap q x.proc).isSome) from rfl,hh,hl,hw] at hs
   simp at hs
   subst hs
   repeat' (first
    | refine ah ?_ ?_
    | refine af ?_
    | exact ai|refine ae fun hb=>?_)
   all_goals (refine dD ?_;simp [*])
  obtain ⟨a,ha⟩:∃a,L[i]=a:=⟨_,rfl⟩
  have hga:L[i]? = some a:=by rw [List.getElem?_eq_getElem hlt,ha]
  rw [List.drop_eq_getElem_cons hlt,ha,oD,hl,hh,hw] at hs
  by_cases hnm:a.name.toList=q.res.name.toList
  case neg =>
   rw [show aY a.name q.res.name=false by simp [aY,hnm]] at hs
   repeat' (first
    | refine ah ?_ ?_
    | refine aa 9 rfl (cB [] (fM q.res l a.am) ?_)
    | refine af ?_
    | exact ai|refine ae fun hb=>?_)
   refine ⟨i+1,⟨by omega,hs⟩,by omega,?_⟩
   exact ao (qf [])
  rw [show aY a.name q.res.name=true by simp [aY,hnm]] at hs
  cases hcv:bb q.res l a.am with
  | true =>
   rw [hcv] at hs
   repeat' (first
    | refine ah ?_ ?_
    | refine aa 9 rfl (cB [] (fM q.res l a.am) ?_)
    | refine af ?_
    | exact ai|refine ae fun hb=>?_)
   refine ⟨i+1,⟨by omega,hs⟩,by omega,?_⟩
   exact ao (qf [])
  | false =>
   rw [hcv] at hs
   obtain ⟨f,hf⟩:∃f:Wt→Bool,f=fun y=>decide (y.proc=x.proc) && !decide (y.prio=x.req.prio):=⟨_,rfl⟩
   rw [←hf] at hs
   obtain ⟨j,hj⟩:∃j,bB q.res l a.am=j:=⟨_,rfl⟩
   have kJ:=Gb q.res l a.am
   rw [hj] at hs kJ
   simp only [Bool.not_true,Bool.or_self,cond_false,Option.isSome_some] at hs
   repeat' (first
    | refine ah ?_ ?_
    | (refine aa 9 rfl ?_;first
     | (refine cB [] (fM q.res l a.am) ?_)
     | (refine cB [] (kJ) ?_))
    | refine af ?_
    | exact ai|refine ae fun hb=>?_)
   refine aj (fun k=>k≤q.waits.length∧q.waits.any f=(q.waits.drop k).any f) (fun k=>bH [3,4,7,8,9,13] [(3,.c (.ptr 3 0)),(4,.c (.ptr 4 0)),(7,.c (.ptr 7 0)),(8,.c (.ptr 8 0)),(9,.c (.ptr 9 0)),(13,.c (.ptr 13 0)),(14,.i k)] [(3,.box 81 q.d),(4,.box 63 (x.d d)),(7,.box 37 [.sc (.int .i64 l.mode),.sc (.int .i64 l.units)]),(8,.box 37 [.sc (.int .i64 h.mode),.sc (.int .i64 h.units)]),(9,.box 37 [.sc (.int .i64 m.mode),.sc (.int .i64 m.units)]),(13,.box 37 [.sc (.int .i64 j.mode),.sc (.int .i64 j.units)])]) (fun k=>q.waits.length-k) 0 ⟨Nat.zero_le _,rfl⟩ (by exact ao (qf [])) ?_
   rintro k ⟨hk,hany⟩
   by_cases hkl:k<q.waits.length
   case neg =>
    rw [List.drop_eq_nil_of_le (by omega),List.any_nil] at hany
    rw [hany] at hs
    rw [←hs]
    repeat' (first
     | refine ah ?_ ?_
     | refine af ?_
     | exact ai|refine ae fun hb=>?_)
    all_goals (refine dD ?_;simp [*])
   obtain ⟨y,hy⟩:∃y,q.waits[k]=y:=⟨_,rfl⟩
   have hgy:q.waits[k]? = some y:=by rw [List.getElem?_eq_getElem hkl,hy]
   rw [List.drop_eq_getElem_cons hkl,hy,List.any_cons] at hany
   by_cases hfy:y.proc=x.proc∧y.prio≠x.req.prio
   ·obtain ⟨hf1,hf2⟩:=hfy
    rw [show f y=true by rw [hf];simp [hf1,hf2],Bool.true_or] at hany
    rw [hany] at hs
    rw [←hs]
    repeat' (first
     | refine ah ?_ ?_
     | refine af ?_
     | exact ai|(refine ae fun hb=>?_;first|(exact (hf2 hb).elim)|(exact (hb hf1).elim)|skip))
    all_goals (refine dD ?_;rfl)
   ·rw [show f y=false by rw [hf];simp;intro h1;exact Classical.byContradiction fun h2=>hfy ⟨h1,h2⟩,Bool.false_or] at hany
    repeat' (first
     | refine ah ?_ ?_
     | refine af ?_
     | exact ai|(refine ae fun hb=>?_;first|(exact (hfy ⟨by assumption,hb⟩).elim)|skip))
    all_goals (refine ⟨k+1,⟨by omega,hany⟩,by omega,?_⟩;exact ao (qf []))
theorem AN (t:List Qu) (p:Pr) (hl:t.length≤100000):FSpec prog 68 [.one (.sl dt t),p.a] [] [] (.c (.sl bV (db t p))) []:=by
 refine aS func68 ?_
 repeat' (first
  | refine ah ?_ ?_
  | refine af ?_
  | exact ai|refine ae fun hb=>?_)
 refine b8 5 1000 39 bV rfl rfl rfl ?_
 refine aj (fun x:Nat×List Tm=>x.1≤t.length∧x.2.length≤x.1∧x.2++db (t.drop x.1) p=db t p) (fun x=>bH [3,1000] [(0,.c (.sl dt t)),(3,.c (.ptr 3 0)),(5,.c (.own 1000)),(6,.i x.1)] [(3,.box 35 [.sc (.int .i64 p.site),.sc (.int .i64 p.inc),.sc (.int .i64 p.num)]),(1000,.arr 39 bV x.2)]) (fun x=>t.length-x.1) (0,[]) ⟨Nat.zero_le _,Nat.le_refl _,rfl⟩ (by exact ao (qf [])) ?_
 rintro ⟨i,acc⟩ ⟨hi,hal,hs⟩
 dsimp only at *
 by_cases hlt:i<t.length
 ·have e:db (t.drop i) p=(bif aG (aq t[i].holds p) then [] else [⟨t[i].res.name,aq t[i].holds p⟩])++db (t.drop (i+1)) p:=by
   rw [List.drop_eq_getElem_cons hlt]
   unfold db
   rw [List.map_cons,List.filter_cons]
   cases aG (aq t[i].holds p) <;> rfl
  rw [e] at hs
  repeat' (first
   | refine ah ?_ ?_
   | (refine aa 8 rfl ?_;refine bg (aw rfl rfl (aL rfl rfl) (aP [⟨t[i].res.name,aq t[i].holds p⟩] rfl rfl rfl rfl) rfl aR aR) rfl rfl rfl ?_)
   | (refine aa 9 rfl ?_;first
    | (refine cB [] (CA t[i] p) ?_)
    | (refine cB [] (mF (aq t[i].holds p)) ?_))
   | refine af ?_
   | exact ai|refine ae fun hb=>?_)
  ·refine ⟨(i+1,acc++[⟨t[i].res.name,aq t[i].holds p⟩]),⟨by dsimp only;omega,by simp;omega,?_⟩,by dsimp only;omega,?_⟩
   ·rw [hb] at hs;rw [←hs];simp
   ·exact ao (qf [(1000,33)])
  ·refine ⟨(i+1,acc),⟨by dsimp only;omega,by dsimp only;omega,?_⟩,by dsimp only;omega,?_⟩
   ·rw [hb] at hs;rw [←hs];simp
   ·exact ao (qf [])
 ·have e:acc=db t p:=by rw [←hs,List.drop_eq_nil_of_le (by omega)];simp [db]
  repeat' (first
   | refine ah ?_ ?_
   | refine af ?_
   | exact ai|refine ae fun hb=>?_)
  rw [←e]
  refine aE (qf []) ?_;exact ab
theorem Fm (t:List Qu) (p:Pr) (hl:t.length≤100000):FSpec prog 69 [.one (.sl dt t),p.a] [] [] (.c (.sl bV (bl p t))) []:=by
 refine aS func69 ?_
 repeat' (first
  | refine ah ?_ ?_
  | refine af ?_
  | exact ai|refine ae fun hb=>?_)
 refine b8 5 1000 39 bV rfl rfl rfl ?_
 refine aj (fun x:Nat×List Tm=>x.1≤t.length∧x.2.length≤x.1∧x.2++bl p (t.drop x.1)=bl p t) (fun x=>bH [3,1000] [(0,.c (.sl dt t)),(3,.c (.ptr 3 0)),(5,.c (.own 1000)),(6,.i x.1)] [(3,.box 35 [.sc (.int .i64 p.site),.sc (.int .i64 p.inc),.sc (.int .i64 p.num)]),(1000,.arr 39 bV x.2)]) (fun x=>t.length-x.1) (0,[]) ⟨Nat.zero_le _,Nat.le_refl _,rfl⟩ (by exact ao (qf [])) ?_
 rintro ⟨i,acc⟩ ⟨hi,hal,hs⟩
 dsimp only at *
 by_cases hlt:i<t.length
 ·rw [List.drop_eq_getElem_cons hlt] at hs
  cases hw:ap t[i] p with
  | some a =>
   rw [show bl p (t[i] :: t.drop (i+1))=⟨t[i].res.name,a⟩ :: bl p (t.drop (i+1)) by simp [bl,hw]] at hs
   repeat' (first
    | refine ah ?_ ?_
    | (refine aa 8 rfl ?_;refine bg (aw rfl rfl (aL rfl rfl) (aP [⟨t[i].res.name,a⟩] rfl rfl rfl rfl) rfl aR aR) rfl rfl rfl ?_)
    | refine aa 9 rfl (cB [] (qg t[i] p hw) ?_)
    | refine af ?_
    | exact ai|refine ae fun hb=>?_)
   refine ⟨(i+1,acc++[⟨t[i].res.name,a⟩]),⟨by dsimp only;omega,by simp;omega,?_⟩,by dsimp only;omega,?_⟩
   ·rw [←hs];simp
   ·exact ao (qf [(1000,35)])
  | none =>
   rw [show bl p (t[i] :: t.drop (i+1))=bl p (t.drop (i+1)) by simp [bl,hw]] at hs
   repeat' (first
    | refine ah ?_ ?_
    | refine aa 9 rfl (cB [] (qg t[i] p hw) ?_)
    | refine af ?_
    | exact ai|refine ae fun hb=>?_)
   refine ⟨(i+1,acc),⟨by dsimp only;omega,by dsimp only;omega,?_⟩,by dsimp only;omega,?_⟩
   ·rw [←hs]
   ·exact ao (qf [])
 ·have e:acc=bl p t:=by rw [←hs,List.drop_eq_nil_of_le (by omega)];simp [bl]
  repeat' (first
   | refine ah ?_ ?_
   | refine af ?_
   | exact ai|refine ae fun hb=>?_)
  rw [←e]
  refine aE (qf []) ?_;exact ab
theorem xZ (a b:List Tm):FSpec prog 67 [.one (.sl bV a),.one (.sl bV b)] [] [] (.b (decide (a=b))) []:=by
 refine aS func67 ?_
 refine aH (fun c ρ a w hr=>bh (t:=0) hr rfl) (fun hl0=>?_)
 by_cases hl:a.length=b.length
 case neg =>
  have hne:a≠b:=fun e=>hl (by rw [e])
  rw [decide_eq_false hne]
  repeat' (first
   | refine ah ?_ ?_
   | refine af ?_
   | exact ai|refine ae fun hb=>?_
   | (refine aE (qf []) ?_;exact ab))
 repeat' (first
  | refine ah ?_ ?_
  | refine af ?_
  | exact ai|refine ae fun hb=>?_)
 refine aj (fun i=>i≤a.length∧((a=b)↔a.drop i=b.drop i)) (fun i=>bH [] [(0,.c (.sl bV a)),(1,.c (.sl bV b)),(5,.i i)] []) (fun i=>a.length-i) 0 ⟨Nat.zero_le _,Iff.rfl⟩ (by exact ao (qf [])) ?_
 rintro i ⟨hi,hs⟩
 by_cases hlt:i<a.length
 ·have hlt2:i<b.length:=by omega
  rw [List.drop_eq_getElem_cons hlt,List.drop_eq_getElem_cons hlt2,List.cons.injEq] at hs
  obtain ⟨x,hx⟩:∃x,a[i]? = some x:=⟨_,List.getElem?_eq_getElem hlt⟩
  obtain ⟨y,hy⟩:∃y,b[i]? = some y:=⟨_,List.getElem?_eq_getElem hlt2⟩
  have ex:a[i]=x:=(List.getElem?_eq_some_iff.1 hx).2
  have ey:b[i]=y:=(List.getElem?_eq_some_iff.1 hy).2
  rw [ex,ey] at hs
  clear ex ey
  by_cases he:x=y
  ·subst he
   repeat' (first
    | refine ah ?_ ?_
    | refine af ?_
    | exact ai|(refine ae fun hb=>?_;first|(exact absurd rfl hb)|skip))
   refine ⟨i+1,⟨by omega,?_⟩,by omega,?_⟩
   ·rw [hs];simp
   ·exact ao (qf [])
  ·rw [decide_eq_false (fun e=>he (hs.1 e).1)]
   repeat' (first
    | refine ah ?_ ?_
    | refine af ?_
    | exact ai|(refine ae fun hb=>?_;first|(exact absurd hb he)|skip)
    | (refine aE (qf []) ?_;exact ab))
 ·rw [List.drop_eq_nil_of_le (by omega),List.drop_eq_nil_of_le (by omega)] at hs
  rw [decide_eq_true (hs.2 rfl)]
  repeat' (first
   | refine ah ?_ ?_
   | refine af ?_
   | exact ai|refine ae fun hb=>?_
   | (refine aE (qf []) ?_;exact ab))
theorem J2 (l:List Tm):(((l.length:Nat):Int) == 0)=decide (l=[]):=by
 rw [Bool.eq_iff_iff]
 cases l with
 | nil=>simp
 | cons x l=>simp;omega
def Cs.d (d:Nat) (c:Cs):List D:=[.sc (.int .i64 c.now),.sl dt c.queues,.sl (fh d) c.procs]
def Cs.a (d:Nat) (c:Cs):V0:=.ag (c.d d)
def AO (c:Cs) (a:Tm):Bool:=aO c.queues a.name && aD (aX c.queues a.name).res a.am
def Fo (c:Cs) (x:Pc):Bool:=D5 x.req && decide (x.since=0) && decide (dX x.led=db c.queues x.proc) && decide (bl x.proc c.queues=[])
def zd (c:Cs) (x:Pc):Bool:=oM x.req && decide (go c.queues x.req.expr=0) && decide (0≤x.since) && decide (x.since≤c.now) && (decide (x.req.limit=0) || decide (c.now<x.since+x.req.limit)) && !dw x.req.expr (bd c.queues x.proc x.req.expr) && c.queues.all (fun q=>bS q x (cj x.req.expr))
theorem wC (c:Cs) (x:Pc):lr c x=(js x.proc && decide (1≤x.cost) && decide (x.cost≤1000) && qY x.led && decide (0≤x.gen) && decide (x.gen≤1073741824) && (dX x.led).all (AO c) && bif !x.waiting then Fo c x else zd c x):=rfl
theorem Dc (d:Nat) (c:Cs) (x:Pc) (hn:0≤c.now∧c.now≤1073741824) (hV:df c.queues=true) {b:Bool} (hB:lr c x=b):FSpec prog 31 [c.a d,x.a d] [] [] (.b b) []:=by
 refine aS func31 ?_
 have hq8:=(bD hV).1
 rw [wC] at hB
 have kV:=qb x.proc
 have kG:=CF x.led
 obtain ⟨v,hv⟩:∃v,js x.proc=v:=⟨_,rfl⟩
 rw [hv] at kV
 cases v with
 | false =>
  obtain rfl:b=false:=by rw [←hB,hv];rfl
  repeat' (first
   | refine ah ?_ ?_
   | refine aa 9 rfl (cB [] (kV) ?_)
   | refine af ?_
   | exact ai|refine ae fun hb=>?_
   | (refine aE (qf []) ?_;exact ab))
 | true =>
  by_cases h1:1≤x.cost∧x.cost≤1000
  case neg =>
   obtain rfl:b=false:=by rw [←hB,show decide (1≤x.cost) = !decide (x.cost<1) by by_cases h:x.cost<1 <;> simp [h] <;> omega];by_cases h:x.cost<1 <;> simp [h] <;> omega
   by_cases h2:x.cost<1
   ·repeat' (first
     | refine ah ?_ ?_
     | refine aa 9 rfl (cB [] (kV) ?_)
     | refine af ?_
     | exact ai|refine ae fun hb=>?_
     | (refine aE (qf []) ?_;exact ab))
   ·repeat' (first
     | refine ah ?_ ?_
     | refine aa 9 rfl (cB [] (kV) ?_)
     | refine af ?_
     | exact ai|refine ae fun hb=>?_
     | (refine aE (qf []) ?_;exact ab))
  obtain ⟨h1,h2⟩:=h1
  rw [hv,decide_eq_true h1,decide_eq_true h2] at hB
  obtain ⟨g,hg⟩:∃g,qY x.led=g:=⟨_,rfl⟩
  rw [hg] at kG hB
  cases g with
  | false =>
   obtain rfl:b=false:=by rw [←hB];rfl
   repeat' (first
    | refine ah ?_ ?_
    | (refine aa 9 rfl ?_;first
     | (refine cB [] (kV) ?_)
     | (refine cB [] (kG) ?_))
    | refine af ?_
    | exact ai|refine ae fun hb=>?_
    | (refine aE (qf []) ?_;exact ab))
  | true =>
   by_cases h3:0≤x.gen∧x.gen≤1073741824
   case neg =>
    obtain rfl:b=false:=by rw [←hB];by_cases h:0≤x.gen <;> simp [h] <;> omega
    by_cases h4:x.gen<0
    ·repeat' (first
      | refine ah ?_ ?_
      | (refine aa 9 rfl ?_;first
       | (refine cB [] (kV) ?_)
       | (refine cB [] (kG) ?_))
      | refine af ?_
      | exact ai|refine ae fun hb=>?_
      | (refine aE (qf []) ?_;exact ab))
    ·repeat' (first
      | refine ah ?_ ?_
      | (refine aa 9 rfl ?_;first
       | (refine cB [] (kV) ?_)
       | (refine cB [] (kG) ?_))
      | refine af ?_
      | exact ai|refine ae fun hb=>?_
      | (refine aE (qf []) ?_;exact ab))
   obtain ⟨h3,h4⟩:=h3
   rw [decide_eq_true h3,decide_eq_true h4] at hB
   simp only [Bool.true_and] at hB
   have kH:=xP x.led (gp hg).1
   obtain ⟨L,hL⟩:∃L,dX x.led=L:=⟨_,rfl⟩
   have hL8:L.length≤8:=by
    rw [←hL]
    unfold dX
    exact Nat.le_trans (List.length_filter_le _ _) (by rw [List.length_map];exact (fc.1 hg).nms)
   rw [hL] at kH hB
   repeat' (first
    | refine ah ?_ ?_
    | (refine aa 9 rfl ?_;first
     | (refine cB [] (kV) ?_)
     | (refine cB [] (kG) ?_)
     | (refine cC [] (kH) ?_))
    | refine af ?_
    | exact ai|refine ae fun hb=>?_)
   refine aj (fun i=>i≤L.length∧(L.all (AO c)=(L.drop i).all (AO c))) (fun i=>bH [2,3] [(2,.c (.ptr 2 0)),(3,.c (.ptr 3 0)),(5,.c (.sl bV L)),(6,.i i)] [(2,.box 26 (c.d d)),(3,.box 63 (x.d d))]) (fun i=>L.length-i) 0 ⟨Nat.zero_le _,rfl⟩ (by exact ao (qf [])) ?_
   rintro i ⟨hi,hs⟩
   by_cases hlt:i<L.length
   ·obtain ⟨a,ha⟩:∃a,L[i]? = some a:=⟨_,List.getElem?_eq_getElem hlt⟩
    have ea:L[i]=a:=(List.getElem?_eq_some_iff.1 ha).2
    rw [List.drop_eq_getElem_cons hlt,ea,List.all_cons] at hs
    by_cases hk:bi a.name 0 c.queues<0
    ·have hf:AO c a=false:=by unfold AO aO;rw [decide_eq_false (by omega)];rfl
     obtain rfl:b=false:=by rw [←hB,hs,hf];rfl
     have kF:=xM c.queues a.name
     repeat' (first
      | refine ah ?_ ?_
      | refine aa 9 rfl (cB [] (kF) ?_)
      | refine af ?_
      | exact ai|refine ae fun hb=>?_
      | (refine aE (qf []) ?_;exact ab))
    ·obtain ⟨j,hj,hF,hqa,hx⟩:=eK hk
     have kF:=yW c.queues a.name hF
     obtain ⟨q,hq⟩:∃q,c.queues[j]? = some q:=⟨_,List.getElem?_eq_getElem hj⟩
     have eq:c.queues[j]=q:=(List.getElem?_eq_some_iff.1 hq).2
     have hf:AO c a=aD q.res a.am:=by
      unfold AO aO aX
      rw [hqa,eq,decide_eq_true (by omega)]
      rfl
     have kR:=mG q.res a.am
     obtain ⟨f,hff⟩:∃f,aD q.res a.am=f:=⟨_,rfl⟩
     rw [hff] at kR hf
     rw [hf] at hs
     clear hF hk hqa hx
     cases f with
     | false =>
      obtain rfl:b=false:=by rw [←hB,hs];rfl
      repeat' (first
       | refine ah ?_ ?_
       | (refine aa 9 rfl ?_;first
        | (refine cB [] (kF) ?_)
        | (refine cB [] (kR) ?_))
       | refine af ?_
       | exact ai|refine ae fun hb=>?_
       | (refine aE (qf []) ?_;exact ab))
     | true =>
      repeat' (first
       | refine ah ?_ ?_
       | (refine aa 9 rfl ?_;first
        | (refine cB [] (kF) ?_)
        | (refine cB [] (kR) ?_))
       | refine af ?_
       | exact ai|refine ae fun hb=>?_)
      refine ⟨i+1,⟨by omega,?_⟩,by omega,?_⟩
      ·rw [hs,Bool.true_and]
      ·exact ao (qf [])
   rw [List.drop_eq_nil_of_le (by omega),List.all_nil] at hs
   rw [hs,Bool.true_and] at hB
   clear hs
   cases hw:x.waiting with
   | false =>
    rw [hw,Bool.not_false,cond_true] at hB
    rw [←hB]
    have kA:=AF d x.req
    have kO:=AN c.queues x.proc (by omega)
    have kS:=xZ L (db c.queues x.proc)
    have kC:=Fm c.queues x.proc (by omega)
    repeat' (first
     | refine ah ?_ ?_
     | (refine aa 9 rfl ?_;first
      | (refine cB [] (kA) ?_)
      | (refine cC [] (kO) ?_)
      | (refine cB [] (kS) ?_)
      | (refine cC [] (kC) ?_))
     | refine af ?_
     | exact ai|(refine ae fun hb=>?_;first|(cases hw.symm.trans hb;done)|skip))
    all_goals (refine dD ?_;rw [←hL] at *;simp [Fo,J2, *])
   | true =>
    rw [hw,Bool.not_true,cond_false] at hB
    unfold zd at hB
    have kQ:=CB d x.req
    have kC:=CE c.queues (by omega)
    have kR:=J0 d c.queues x.req.expr hV
    obtain ⟨rq,hrq⟩:∃rq,oM x.req=rq:=⟨_,rfl⟩
    rw [hrq] at kQ hB
    cases rq with
    | false =>
     obtain rfl:b=false:=by rw [←hB];rfl
     repeat' (first
      | refine ah ?_ ?_
      | refine aa 9 rfl (cB [] (kQ) ?_)
      | refine af ?_
      | exact ai|(refine ae fun hb=>?_;first|(cases hw.symm.trans hb;done)|skip)
      | (refine aE (qf []) ?_;exact ab))
    | true =>
     obtain ⟨e,he⟩:∃e,go c.queues x.req.expr=e:=⟨_,rfl⟩
     rw [he] at kR hB
     by_cases h0:e=0
     case neg =>
      obtain rfl:b=false:=by rw [←hB,decide_eq_false h0];rfl
      repeat' (first
       | refine ah ?_ ?_
       | (refine aa 9 rfl ?_;first
        | (refine cB [] (kQ) ?_)
        | (refine cC [] (kC) ?_)
        | (refine cB [] (kR) ?_))
       | refine af ?_
       | exact ai|(refine ae fun hb=>?_;first|(cases hw.symm.trans hb;done)|(exact absurd hb h0)|skip)
       | (refine aE (qf []) ?_;exact ab))
     subst h0
     have hlim:0≤x.req.limit∧x.req.limit≤1000:=by
      unfold oM at hrq
      simp only [Bool.and_eq_true,decide_eq_true_eq] at hrq
      exact ⟨hrq.1.2,hrq.2⟩
     have hgl:(bd c.queues x.proc x.req.expr).length≤1000:=by have:=dN x.req.expr;simp [bd];omega
     have kGr:=CD d c.queues x.proc x.req.expr
     have kHo:=Hc d x.req.expr (bd c.queues x.proc x.req.expr) hgl
     obtain ⟨T,hT⟩:∃T,cj x.req.expr=T:=⟨_,rfl⟩
     rw [hT] at hB
     have kAt:=wk d x.req.expr hT
     by_cases hsn:0≤x.since∧x.since≤c.now
     case neg =>
      obtain rfl:b=false:=by rw [←hB];by_cases h:0≤x.since <;> simp [h] <;> omega
      by_cases h9:x.since<0
      ·repeat' (first
        | refine ah ?_ ?_
        | (refine aa 9 rfl ?_;first
         | (refine cB [] (kQ) ?_)
         | (refine cC [] (kC) ?_)
         | (refine cB [] (kR) ?_))
        | refine af ?_
        | exact ai|(refine ae fun hb=>?_;first|(cases hw.symm.trans hb;done)|skip)
        | (refine aE (qf []) ?_;exact ab))
      ·repeat' (first
        | refine ah ?_ ?_
        | (refine aa 9 rfl ?_;first
         | (refine cB [] (kQ) ?_)
         | (refine cC [] (kC) ?_)
         | (refine cB [] (kR) ?_))
        | refine af ?_
        | exact ai|(refine ae fun hb=>?_;first|(cases hw.symm.trans hb;done)|skip)
        | (refine aE (qf []) ?_;exact ab))
     obtain ⟨hs1,hs2⟩:=hsn
     rw [decide_eq_true hs1,decide_eq_true hs2] at hB
     simp only [decide_true,Bool.true_and] at hB
     by_cases hli:x.req.limit=0∨c.now<x.since+x.req.limit
     case neg =>
      obtain rfl:b=false:=by rw [←hB,decide_eq_false (fun h=>hli (.inl h)),decide_eq_false (fun h=>hli (.inr h))];rfl
      rw [not_or] at hli
      obtain ⟨hl1,hl2⟩:=hli
      repeat' (first
       | refine ah ?_ ?_
       | (refine aa 9 rfl ?_;first
        | (refine cB [] (kQ) ?_)
        | (refine cC [] (kC) ?_)
        | (refine cB [] (kR) ?_))
       | refine af ?_
       | exact ai|(refine ae fun hb=>?_;first|(cases hw.symm.trans hb;done)|(exact absurd hb hl1)|skip)
       | (refine aE (qf []) ?_;exact ab))
     have hli':(decide (x.req.limit=0) || decide (c.now<x.since+x.req.limit))=true:=by simpa using hli
     rw [hli',Bool.true_and] at hB
     obtain ⟨ho,hho⟩:∃ho,dw x.req.expr (bd c.queues x.proc x.req.expr)=ho:=⟨_,rfl⟩
     rw [hho] at kHo hB
     cases ho with
     | true =>
      obtain rfl:b=false:=by rw [←hB];rfl
      rcases hli with hl1|hl1
      ·repeat' (first
        | refine ah ?_ ?_
        | (refine aa 9 rfl ?_;first
         | (refine cB [] (kQ) ?_)
         | (refine cC [] (kC) ?_)
         | (refine cB [] (kR) ?_)
         | (refine cC [] (kGr) ?_)
         | (refine cB [] (kHo) ?_))
        | refine af ?_
        | exact ai|(refine ae fun hb=>?_;first|(cases hw.symm.trans hb;done)|(exact absurd hl1 hb)|skip)
        | (refine aE (qf []) ?_;exact ab))
      ·by_cases hl2:x.req.limit=0
       ·repeat' (first
         | refine ah ?_ ?_
         | (refine aa 9 rfl ?_;first
          | (refine cB [] (kQ) ?_)
          | (refine cC [] (kC) ?_)
          | (refine cB [] (kR) ?_)
          | (refine cC [] (kGr) ?_)
          | (refine cB [] (kHo) ?_))
         | refine af ?_
         | exact ai|(refine ae fun hb=>?_;first|(cases hw.symm.trans hb;done)|(exact absurd hl2 hb)|skip)
         | (refine aE (qf []) ?_;exact ab))
       ·repeat' (first
         | refine ah ?_ ?_
         | (refine aa 9 rfl ?_;first
          | (refine cB [] (kQ) ?_)
          | (refine cC [] (kC) ?_)
          | (refine cB [] (kR) ?_)
          | (refine cC [] (kGr) ?_)
          | (refine cB [] (kHo) ?_))
         | refine af ?_
         | exact ai|(refine ae fun hb=>?_;first|(cases hw.symm.trans hb;done)|(exact absurd hb hl2)|skip)
         | (refine aE (qf []) ?_;exact ab))
     | false =>
      rw [Bool.not_false,Bool.true_and] at hB
      obtain ⟨F,hF⟩:∃F:Qu→Bool,(fun q=>bS q x T)=F:=⟨_,rfl⟩
      have hF':∀q,bS q x T=F q:=fun q=>congrFun hF q
      rw [hF] at hB
      by_cases hl2:x.req.limit=0
      case' pos =>
       repeat' (first
        | refine ah ?_ ?_
        | (refine aa 9 rfl ?_;first
         | (refine cB [] (kQ) ?_)
         | (refine cC [] (kC) ?_)
         | (refine cB [] (kR) ?_)
         | (refine cC [] (kGr) ?_)
         | (refine cB [] (kHo) ?_)
         | (refine cC [] (kAt) ?_))
        | refine af ?_
        | exact ai|(refine ae fun hb=>?_;first|(cases hw.symm.trans hb;done)|(exact absurd hl2 hb)|skip))
      case' neg =>
       repeat' (first
        | refine ah ?_ ?_
        | (refine aa 9 rfl ?_;first
         | (refine cB [] (kQ) ?_)
         | (refine cC [] (kC) ?_)
         | (refine cB [] (kR) ?_)
         | (refine cC [] (kGr) ?_)
         | (refine cB [] (kHo) ?_)
         | (refine cC [] (kAt) ?_))
        | refine af ?_
        | exact ai|(refine ae fun hb=>?_;first|(cases hw.symm.trans hb;done)|(exact absurd hb hl2)|skip))
      all_goals
       refine aj (fun i=>i≤c.queues.length∧(c.queues.all F=(c.queues.drop i).all F)) (fun i=>bH [2,3] [(2,.c (.ptr 2 0)),(3,.c (.ptr 3 0)),(9,.c (.sl bV T)),(10,.i i)] [(2,.box 26 (c.d d)),(3,.box 63 (x.d d))]) (fun i=>c.queues.length-i) 0 ⟨Nat.zero_le _,rfl⟩ (by exact ao (qf [])) ?_
       clear kAt kHo kGr kR kC kQ hli'
       rintro i ⟨hi,hs⟩
       by_cases hlt:i<c.queues.length
       ·obtain ⟨q,hq⟩:∃q,c.queues[i]? = some q:=⟨_,List.getElem?_eq_getElem hlt⟩
        have eq:c.queues[i]=q:=(List.getElem?_eq_some_iff.1 hq).2
        rw [List.drop_eq_getElem_cons hlt,eq,List.all_cons] at hs
        have kP:=I3 d q x T
        rw [hF'] at kP
        obtain ⟨f,hff⟩:∃f,F q=f:=⟨_,rfl⟩
        rw [hff] at kP hs
        cases f with
        | false =>
         obtain rfl:b=false:=by rw [←hB,hs];rfl
         repeat' (first
          | refine ah ?_ ?_
          | refine aa 9 rfl (cB [] (kP) ?_)
          | refine af ?_
          | exact ai|refine ae fun hb=>?_
          | (refine aE (qf []) ?_;exact ab))
        | true =>
         repeat' (first
          | refine ah ?_ ?_
          | refine aa 9 rfl (cB [] (kP) ?_)
          | refine af ?_
          | exact ai|refine ae fun hb=>?_)
         refine ⟨i+1,⟨by omega,?_⟩,by omega,?_⟩
         ·rw [hs,Bool.true_and]
         ·exact ao (qf [])
       ·rw [List.drop_eq_nil_of_le (by omega),List.all_nil] at hs
        obtain rfl:b=true:=by rw [←hB,hs]
        repeat' (first
         | refine ah ?_ ?_
         | refine af ?_
         | exact ai|refine ae fun hb=>?_
         | (refine aE (qf []) ?_;exact ab))
theorem Hg {d d':Nat} (hd:d≤d') {w:World} {S:Nat→Prop} {x:Pc} {cs:List Value} (h:(fh d).rep w S x cs):(fh d').rep w S x cs:=by
 obtain ⟨A1,c1,A2,c2,A3,c3,e,h1,h2,h3,h4,h5,h6⟩:=h
 exact ⟨A1,c1,A2,c2,A3,c3,e,h1,h2,h3,h4,h5.map fun _ _ hx=>xm hd hx,h6⟩
theorem Cs.up {d d':Nat} (hd:d≤d') {w:World} {S:Nat→Prop} {ρ:Nat→Value} {c:Cs} {v:Value} (h:(c.a d).rep w S ρ v):(c.a d').rep w S ρ v:=by
 obtain ⟨cs,e,hA⟩:=h
 match cs,hA with
 | [_,_,_],⟨h1,h2,⟨A,cap,h3,h4,h5⟩,_⟩=>exact ⟨_,e,h1,h2,⟨A,cap,h3,h4,h5.map fun _ _ hx=>Hg hd hx⟩,trivial⟩
section
open Go.WideShapes Go.ChangeShapes Go.Deep Go.Joins
section
variable {H:Type} {enc:TypeId×Value→H} {w:World} {base:Nat} {spare:Nat→Bool} {held:Bool}
theorem x7 {r:Reach} {b0:Nat} {v:Value} {d:DataW H} {p:List MemPlace} (hv:Value.okWide prog w r b0 22 v) (h:DataW.Trod enc prog w base spare held 22 v d p):∃l:List Rs,∀ρ,(V0.one (.sl de l)).rep w (Lo w.heap.size) ρ v:=by
 obtain ⟨A,l,cap,rfl,h1,h2,h3,_⟩:=zP hv h
 exact ⟨l,fun ρ=>⟨A,cap,rfl,⟨h1,h2⟩,h3⟩⟩
end
theorem Cm.up {d d':Nat} (hd:d≤d') {w:World} {S:Nat→Prop} {ρ:Nat→Value} {k:Cm} {v:Value} (h:(k.a d).rep w S ρ v):(k.a d').rep w S ρ v:=by
 obtain ⟨cs,e,hA⟩:=h
 match cs,hA with
 | [_,_,_,_,_,_,_,_,_,_,_,_,_],⟨k0,k1,k2,k3,k4,k5,k6,k7,⟨A,cap,e1,e2,h3⟩,k9,k10,k11,k12,_⟩ =>
  exact ⟨_,e,k0,k1,k2,k3,k4,k5,k6,k7,⟨A,cap,e1,e2,h3.map fun _ _ hx=>xm hd hx⟩,k9,k10,k11,k12,trivial⟩
end
section
variable {P:Program} {o:Oper} {s:Mst} {α:Type} {E:El α}
theorem oE {w:World} {base:Nat} {e:TypeId} {n N m cap:Nat} {A:Option Addr} {xs:List Value} (h:w.ownsRow base e n (.slice A N cap) N xs) (hm:m≤N) (h0:0<N):w.ownsRow base e n (.slice A m cap) m (xs.take (m*n)):=by
 obtain ⟨h1,h2⟩:=h
 have hmn:m*n≤N*n:=Nat.mul_le_mul_right n hm
 refine ⟨by rw [List.length_take,h1];omega,.inr ?_⟩
 rcases h2 with ⟨_,hN⟩|⟨g,cap',cur,hv,hb,hh,hc,hcm,hcs,ht⟩
 ·omega
 ·injection hv with e1 _ e3
  subst e1
  subst e3
  exact ⟨g,cap,cur,rfl,hb,hh,by omega,hcm,hcs,by rw [←ht,List.take_take,Nat.min_eq_left hmn]⟩
end
section
variable {P:Program} {f:FuncId} {e:TypeId} {α:Type} {E:El α} {l l':List α}
theorem sS {ars:List V0} {hb:List (Nat×Box)} (hen:∀(vs:Array Value) (w:World),(callFunc f vs).run P w = .ok (.enter f vs) w) (hk1:aI (av hb) 1=false)
  (h:∀(w:World) (F:Nat→Prop) (ρ:Nat→Value) (vs xs:List Value),w.ownsRow 0 e E.n (ρ 1) l.length xs→Reps E w F l xs→(∀b,F b→b<w.heap.size∧kb (ρ 1)≠some b)→
   All2 (fun d v=>V0.rep w F ρ d v) ars vs→(∀k b,dy hb k=some b→b.rep w F ρ (ρ k)∧∀g,kb (ρ k)=some g→kb (ρ 1)≠some g)→
   Calls P f (ρ 1 :: vs).toArray w fun e' w'=>∃v' ys,e' = .returned v'∧Frx w w' (fun b=>kb (ρ 1)=some b)∧(∀g,kb v'=some g→g<w'.heap.size∧(w.heap.size≤g∨kb (ρ 1)=some g))∧w'.ownsRow 0 e E.n v' l'.length ys∧
    ∀F':Nat→Prop,(∀b,F b→F' b∧w'.heap[b]? = w.heap[b]?)→Reps E w' F' l' ys) :
  FSpec P f (.one (.own 1) :: ars) ((1,.arr e E l) :: hb) [2] (.c (.own 2)) ((2,some (.arr e E l')) :: (1,none) :: jl (av hb)):=by
 refine ⟨hen,fun q c st ρ a w vs hr hinj hargs hhin hus=>?_⟩
 match vs,hargs with
 | v :: vs,⟨h0,hargs⟩ =>
  obtain rfl:v=ρ (q 1):=h0
  have hk:=hhin 1 _ rfl
  obtain ⟨xs,hx1,hx2⟩:=hr.hp (q 1) _ hk
  have hf2:st.f (q 2)=true:=hus 2 rfl
  have hq12:(q 2).beq (q 1)=false:=by
   cases h9:(q 2).beq (q 1) with
   | false=>rfl
   | true=>rw [Nat.eq_of_beq_eq_true h9,hr.nfh hk] at hf2;cases hf2
  refine (h w (Fz c st.h ρ w) (fun k=>ρ (q k)) vs xs hx1 hx2 (fun b hb=>⟨hb.2.1,hb.2.2 _ _ hk⟩) (All2.imp hargs fun d v _ hd=>(V0.rep_ren (q:=q) (ρ':=fun k=>ρ (q k)) fun _ _=>rfl).1 hd) (fun k b hg=>?_)).mono ?_
  ·have hne:(1:Nat).beq k=false:=by
    cases h9:(1:Nat).beq k with
    | false=>rfl
    | true =>
     exfalso
     rw [←Nat.eq_of_beq_eq_true h9] at hg
     have:∀(m:List (Nat×Box)),aI (av m) 1=false→dy m 1=none:=by
      intro m
      induction m with
      | nil=>intro _;rfl
      | cons y m ih =>
       intro hm
       simp only [av,List.map_cons,aI,Bool.or_eq_false_iff] at hm
       simp only [dy,hm.1,cond_false]
       exact ih hm.2
     rw [this hb hk1] at hg
     cases hg
   have hin:aI (av hb) k=true:=by
    have:∀(m:List (Nat×Box)),dy m k=some b→aI (av m) k=true:=by
     intro m
     induction m with
     | nil=>intro h;cases h
     | cons y m ih =>
      intro hm
      simp only [av,List.map_cons,aI,Bool.or_eq_true]
      cases h9:y.1.beq k with
      | true=>exact .inl rfl
      | false =>
       simp only [dy,h9,cond_false] at hm
       exact .inr (ih hm)
    exact this hb hg
   have hk':=hhin k b (by simp only [dy,hne,cond_false];exact hg)
   refine ⟨(Box.rep_ren (q:=q) (ρ':=fun k=>ρ (q k)) fun _ _=>rfl).1 (hr.hp _ _ hk'),fun g h1 h2=>?_⟩
   have e1:=hinj k 1 (by rw [bk] at hin ⊢;exact List.mem_append_left _ (List.mem_cons_of_mem _ hin)) rfl (hr.dis _ _ _ _ g hk' hk h1 h2)
   subst e1
   cases hne
  ·rintro e' w' ⟨v',ys,rfl,hf,hkb,hy1,hy2⟩
   have hou:dJ q ((2,some (.arr e E l')) :: (1,none) :: jl (av hb))=(q 2,some (.arr e E l')) :: jl ((1 :: av hb).map q):=by
    simp [dJ,jl,Box.ren,av,Function.comp_def]
   refine ⟨v',rfl,fun dst hdst=>⟨upd ρ (q 2) v',?_⟩⟩
   rw [hou]
   obtain ⟨hs,hhs⟩:∃hs,(q 2,some (Box.arr e E l')) :: jl ((1 :: av hb).map q)=hs:=⟨_,rfl⟩
   rw [hhs]
   have hsm:∀n bx,aA hs n=true→hput hs st.h n=some bx→n=q 2∧bx = .arr e E l':=fun n bx hn hp=>by
    subst hhs
    cases h9:(q 2).beq n with
    | true =>
     simp only [hput,h9,cond_true,Option.some.injEq] at hp
     exact ⟨(Nat.eq_of_beq_eq_true h9).symm,hp.symm⟩
    | false =>
     simp only [aA,h9,Bool.false_or] at hn
     simp only [hput,h9,cond_false] at hp
     rw [eW (by rw [←cY];exact hn)] at hp
     cases hp
   have hke:∀n,aA hs n=true→n=q 2∨∃bx,st.h n=some bx:=fun n hn=>by
    subst hhs
    cases h9:(q 2).beq n with
    | true=>exact .inl (Nat.eq_of_beq_eq_true h9).symm
    | false =>
     right
     simp only [aA,h9,Bool.false_or,cY] at hn
     have:∃k,k∈(1 :: av hb)∧q k=n:=by
      have h8:∀(m:List Nat),aI (m.map q) n=true→∃k,k∈m∧q k=n:=by
       intro m
       induction m with
       | nil=>intro h;cases h
       | cons y m ih =>
        intro hm
        simp only [List.map_cons,aI,Bool.or_eq_true] at hm
        rcases hm with hm|hm
        ·exact ⟨y,by simp,Nat.eq_of_beq_eq_true hm⟩
        ·obtain ⟨k,k1,k2⟩:=ih hm
         exact ⟨k,by simp [k1],k2⟩
      exact h8 _ hn
     obtain ⟨k,hkm,rfl⟩:=this
     rcases List.mem_cons.1 hkm with rfl|hkm
     ·exact ⟨_,hk⟩
     ·obtain ⟨b,hb⟩:∃b,dy ((1,.arr e E l) :: hb) k=some b:=by
       have:∀(m:List (Nat×Box)),k∈av m→∃b,dy m k=some b:=by
        intro m
        induction m with
        | nil=>intro h;cases h
        | cons y m ih =>
         intro hm
         cases h7:y.1.beq k with
         | true=>exact ⟨y.2,by simp only [dy,h7,cond_true]⟩
         | false =>
          rcases List.mem_cons.1 hm with h6|h6
          ·rw [h6,Nat.beq_refl] at h7;cases h7
          ·obtain ⟨b,hb⟩:=ih h6
           exact ⟨b,by simp only [dy,h7,cond_false];exact hb⟩
       exact this _ (List.mem_cons_of_mem _ hkm)
      exact ⟨_,hhin k b hb⟩
   have hkq1:aA hs (q 1)=true:=by
    subst hhs
    simp [aA,cY,aI]
   have hFz:∀b,Fz c st.h ρ w b→Fz c (hput hs st.h) (upd ρ (q 2) v') w' b∧w'.heap[b]? = w.heap[b]?:=fun b hb=>by
    refine ⟨⟨hb.1,Nat.lt_of_lt_of_le hb.2.1 hf.size,fun n bx hn he=>?_⟩,hf.keep b hb.2.1 fun he=>hb.2.2 _ _ hk he⟩
    cases h9:aA hs n with
    | true =>
     obtain ⟨rfl,_⟩:=hsm n bx h9 hn
     rw [aM] at he
     rcases (hkb b he).2 with h|h
     ·have:=hb.2.1;omega
     ·exact hb.2.2 _ _ hk h
    | false =>
     rw [bO h9] at hn
     have hkn:(q 2).beq n=false:=by
      cases h8:(q 2).beq n with
      | false=>rfl
      | true=>rw [←Nat.eq_of_beq_eq_true h8,hr.wf.h _ hf2] at hn;cases hn
     rw [dx hkn] at he
     exact hb.2.2 n bx hn he
   refine hr.app (ρ':=upd ρ (q 2) v') (e:=⟨(TV.c (.own 2)).ren q,hs,[2].map q⟩) hdst (fun n hn=>?_) (fun n hn=>dx (by simpa [aI] using hn)) (fun n hn=>?_) ⟨hf.os,hf.tape,hf.output,hf.size,fun b hlt hn=>hf.keep b hlt fun e=>hn ⟨q 1,_,hkq1,hk,e⟩⟩ (fun n bx g' hn hb hg=>?_) (fun n n' b b' g hn hn' hb hb' _ _=>?_) (fun n hn=>.inl ?_) (fun n n' bx hn hb hx2=>?_) (fun n bx hn hb=>?_) ?_
   ·obtain rfl:q 2=n:=by simp [aI] at hn;exact hn
    exact ⟨hf2,by subst hhs;simp [aA]⟩
   ·rcases hke n hn with rfl|⟨bx,hbx⟩
    ·exact .inl (by simp [aI])
    ·exact .inr (hr.nfh hbx)
   ·obtain ⟨rfl,_⟩:=hsm n bx hn hb
    rw [aM] at hg
    exact ⟨(hkb g' hg).1,(hkb g' hg).2.imp id fun h=>⟨q 1,_,hkq1,hk,h⟩⟩
   ·rw [(hsm n b hn hb).1,(hsm n' b' hn' hb').1]
   ·obtain rfl:q 2=n:=by simpa [TV.ren,V0.ren,D.ren,TV.has,V0.has,D.has] using hn
    simp [aI]
   ·rw [(hsm n' bx hn hb).2] at hx2
    simp [Box.has] at hx2
   ·obtain ⟨rfl,rfl⟩:=hsm n bx hn hb
    rw [aM]
    exact ⟨ys,hy1,hy2 _ hFz⟩
   ·exact (aM ρ (q 2) v').symm
end
section
variable {w:World} {base:Nat} {e:TypeId} {N n cap:Nat} {A:Option Addr} {xs:List Value}
theorem jV {g:Nat} (h:w.ownsRow base e N (.slice (some ⟨g,0,none⟩) n cap) n xs):∃ys,w.ownsRow base e N (.slice (some ⟨g,0,none⟩) cap cap) cap ys∧ys.take (n*N)=xs∧n≤cap∧cap≤maxLen∧g<w.heap.size:=by
 obtain ⟨h1,h2⟩:=h
 rcases h2 with ⟨hv,_⟩|⟨g',cap',cur,hv,hg,hh,hnc,hcm,hcs,ht⟩
 ·cases hv
 ·injection hv with e1 _ e3
  injection e1 with e1
  injection e1 with e1
  subst e1
  subst e3
  refine ⟨cur.toList,⟨by simpa using hcs,.inr ⟨_,_,cur,rfl,hg,hh,Nat.le_refl _,hcm,hcs,?_⟩⟩,ht,hnc,hcm,(Array.getElem?_eq_some_iff.1 hh).1⟩
  rw [←hcs]
  exact List.take_of_length_le (by simp)
theorem da {g:Nat} (h:w.ownsRow base e N (.slice (some ⟨g,0,none⟩) n cap) n xs) {j:Nat} (hj:j<cap*N):(w.cell? ⟨g,j,none⟩).isSome=true∧w.frozen? ⟨g,j,none⟩=false:=by
 obtain ⟨h1,h2⟩:=h
 rcases h2 with ⟨hv,_⟩|⟨g',cap',cur,hv,hg,hh,hnc,hcm,hcs,ht⟩
 ·cases hv
 ·injection hv with e1 _ e3
  injection e1 with e1
  injection e1 with e1
  subst e1
  subst e3
  refine ⟨?_,frozen_of_row w _ j cur e hh⟩
  have:w.cell? ⟨g,j,none⟩=cur[j]?:=by simp [World.cell?,hh]
  rw [this,Array.getElem?_eq_getElem (by rw [hcs];exact hj)]
  rfl
theorem mQ {g:Nat} (h:w.ownsRow base e N (.slice (some ⟨g,0,none⟩) n cap) n xs) {q:Nat} {u:Value} (hu:xs[q]? = some u):w.cell? ⟨g,q,none⟩=some u:=by
 have:=h.cells rfl _ _ hu
 rwa [cL,Nat.zero_add] at this
theorem mR (h:w.ownsRow base e N (.slice A n cap) n xs):xs.length=n*N:=h.1
theorem qI {g:Nat} (h:w.ownsRow base e N (.slice (some ⟨g,0,none⟩) n cap) n xs) (vs:List Value) {j:Nat} (hj:j+vs.length≤xs.length):(w.setCells g j vs).ownsRow base e N (.slice (some ⟨g,0,none⟩) n cap) n (xs.take j++vs++xs.drop (j+vs.length)):=eL vs j w xs h hj
theorem fI {g:Nat}:∀(vs:List Value) (j:Nat) (w:World),(w.setCells g j vs).os=w.os∧(w.setCells g j vs).tape=w.tape∧(w.setCells g j vs).output=w.output
 | [],_,_=>⟨rfl,rfl,rfl⟩
 | v :: r,j,w=>by rw [World.setCells];exact fI r (j+1) _
theorem gq (w:World) (g j:Nat) (vs:List Value):Frx w (w.setCells g j vs) fun b=>b=g :=
 ⟨(fI vs j w).1,(fI vs j w).2.1,(fI vs j w).2.2,by rw [bG];exact Nat.le_refl _,fun b _ hn=>bz vs j w b hn⟩
theorem Frx.trans {w1 w2 w3:World} {M:Nat→Prop} (h:Frx w1 w2 M) (k:Frx w2 w3 M):Frx w1 w3 M :=
 ⟨k.os.trans h.os,k.tape.trans h.tape,k.output.trans h.output,Nat.le_trans h.size k.size,fun b hb hn=>(k.keep b (Nat.lt_of_lt_of_le hb h.size) hn).trans (h.keep b hb hn)⟩
end
section
open Go.Lib
def Bm:Value:=.agg #[.int .i64 0,.int .i64 0,.int .i64 0,.int .i64 0,.slice none 0 0,.slice none 0 0,.bool false,.int .i64 0,.string ⟨#[]⟩,.int .i64 0,.int .i64 0,.slice none 0 0,.int .i64 0,.int .i64 0,.int .i64 0,.int .i64 0]
theorem x8 {n cap i g:Nat} {xs:List Value} (w:World) (ho:w.ownsRow 0 63 16 (.slice (some ⟨g,0,none⟩) n cap) n xs) (hone:∀u∈xs,u.oneCell'=true) (hi:i<n) (hn:n≤100000) :
  Calls prog 162 #[.slice (some ⟨g,0,none⟩) n cap,.int .i64 i,.int .i64 ((i+1:Nat):Int)] w fun e w'=>e = .returned (.slice (some ⟨g,0,none⟩) (n-1) cap)∧Frx w w' (fun b=>b=g)∧w'.ownsRow 0 63 16 (.slice (some ⟨g,0,none⟩) (n-1) cap) (n-1) (xs.take (i*16)++xs.drop ((i+1)*16)):=by
 obtain ⟨_,_,_,hnc,hcm,hgw⟩:=jV ho
 have hinfo:(prog.info? 63).map (fun i=>(i.zero,i.size,i.bytes))=some (some Bm,16,184):=by kernel_rfl
 have hxl:=mR ho
 obtain ⟨news,hnews⟩:∃news,news=xs.drop ((i+1)*16):=⟨_,rfl⟩
 have hlen:news.length=(n-(i+1))*16:=by rw [hnews,List.length_drop,hxl,Nat.sub_mul]
 obtain ⟨A,hA,hsrc⟩:∃A:Addr,(if cap=i+1 then some (⟨g,0,none⟩:Addr) else some ⟨g,(i+1)*16,none⟩)=some A∧Hid (∀t u,news[t]? = some u→w.drew.cell? (A.add t)=some u):=by
  by_cases h:cap=i+1
  ·refine ⟨⟨g,0,none⟩,by simp [h],fun t u hu=>?_⟩
   have h0:news.length=0:=by rw [hlen];omega
   rw [List.length_eq_zero_iff.1 h0] at hu
   simp at hu
  ·refine ⟨⟨g,(i+1)*16,none⟩,by simp [h],fun t u hu=>?_⟩
   rw [hnews,List.getElem?_drop] at hu
   rw [Addr.add_lit]
   exact mQ ho hu
 have s1:Hid (news.length=(n-(i+1))*16):=hlen
 have s2:Hid (∀u∈news,u.oneCell'=true):=fun u hu=>hone u (List.mem_of_mem_drop (hnews▸hu))
 have s3:Hid (∀t,t<news.length→(w.drew.cell? ⟨g,0+i*16+t,none⟩).isSome=true∧w.drew.frozen? ⟨g,0+i*16+t,none⟩=false):=by
  intro t ht
  rw [hlen] at ht
  rw [Nat.zero_add]
  exact da ho (j:=i*16+t) (by omega)
 obtain ⟨W1,hW1⟩:∃W1,W1=w.drew.setCells g (0+i*16) news:=⟨_,rfl⟩
 have hod:w.drew.ownsRow 0 63 16 (.slice (some ⟨g,0,none⟩) n cap) n xs:=ho
 have hW1':W1.ownsRow 0 63 16 (.slice (some ⟨g,0,none⟩) n cap) n (xs.take (i*16)++news++xs.drop (i*16+news.length)):=by
  rw [hW1,Nat.zero_add]
  exact qI hod news (by rw [hlen,hxl];omega)
 have hW1c:W1.ownsRow 0 63 16 (.slice (some ⟨g,0,none⟩) (n-1) cap) (n-1) (xs.take (i*16)++news):=by
  have h:=oE hW1' (m:=n-1) (by omega) (by omega)
  rw [List.take_left' (by rw [List.length_append,List.length_take,hlen,hxl];omega)] at h
  exact h
 obtain ⟨vs,hcl⟩:=jg (P:=prog) W1 24 63 Bm underlying24 (fun w=>by kernel_rfl) (by intro u hu;simp [Value.cells,Bm] at hu;rcases hu with rfl|rfl|rfl|rfl|rfl|rfl|rfl|rfl|rfl|rfl|rfl|rfl|rfl|rfl|rfl|rfl <;> rfl) (by decide) g ((i+(n-(i+1)))*16) (n-(i+(n-(i+1)))) (cap-(i+(n-(i+1)))) (by omega) (fun j hj=>by
  have hj':j<(n-(i+(n-(i+1))))*16:=hj
  exact da hW1' (by omega))
 have hfin:Hid (Frx w (W1.setCells g ((i+(n-(i+1)))*16) vs) (fun b=>b=g)∧(W1.setCells g ((i+(n-(i+1)))*16) vs).ownsRow 0 63 16 (.slice (some ⟨g,0,none⟩) (n-1) cap) (n-1) (xs.take (i*16)++news)):=by
  refine ⟨?_,jz vs _ W1 _ hW1c (by rw [List.length_append,List.length_take,hlen,hxl];omega)⟩
  have h1:Frx w W1 fun b=>b=g:=by rw [hW1];exact (Frx.trans (Frx.drew (Frx.refl w _)) (gq w.drew g _ news))
  exact h1.trans (gq W1 g _ vs)
 obtain ⟨i0,hi0,hz0,hz1,hz2⟩:=info_parts hinfo
 have hW:Hid (W1=w.drew.setCells g (0+i*16) news):=hW1
 have hic:i≤cap:=by omega
 have hjc:i+1≤cap:=by omega
 have mixed:prog.follows .mixedOrders=true:=by kernel_rfl
 have hb1:(0:Int)≤(i:Int)+1:=by omega
 have hb2:(i:Int)+1≤(n:Int):=by omega
 rw [←hnews]
 clear hW1 hW1' hW1c hod ho hone hnews hlen hxl
 go_enter func162,ntmps162
 go_wp2_with fail
 go_region_law_o (refine step_append_room rfl (.tmp 22) (.tmp 25) 24 rfl 63 i0 16 underlying24 hi0 hz1 g 0 i cap (by simp [Act.eval,Act.put]) A (n-(i+1)) (cap-(i+1)) news (by simp [Act.eval,Act.put]) s1.out hsrc.out s2.out (by omega) s3.out ?_;rw [←hW.out])
 go_wp2
 go_ret
 exact ⟨by rw [show n-1=i+(n-(i+1)) by omega];rfl,hfin.out⟩
theorem Fp (d:Nat) (l:List Pc) (i:Nat) (hl:l.length≤100000) (hi:i<l.length) {L:List Pc} (hL:l.eraseIdx i=L):FSpec prog 162 [.one (.own 1),.one (.sc (.int .i64 (i:Int))),.one (.sc (.int .i64 ((i:Int)+1)))] [(1,.arr 63 (fh d) l)] [2] (.c (.own 2)) [(2,some (.arr 63 (fh d) L)),(1,none)] :=
 sS (hb:=[]) (fun b W=>by kernel_rfl) rfl fun w F ρ vs xs ho hr hF ha _=>by
  match vs,ha with
  | [_,_],⟨h2,h3,_⟩ =>
   obtain rfl:=h2
   obtain rfl:=h3
   obtain ⟨g,cap,hv⟩:∃g cap,ρ 1 = .slice (some ⟨g,0,none⟩) l.length cap:=by
    rcases ho.2 with ⟨_,hz⟩|⟨g,cap,cur,hv,_⟩
    ·omega
    ·exact ⟨g,cap,hv⟩
   rw [hv] at ho hF ⊢
   have hlt:=(jV ho).choose_spec.2.2.2.2
   refine Calls.mono (x8 w ho hr.one hi hl) ?_
   rintro e w' ⟨rfl,hf,ho'⟩
   have hLl:L.length=l.length-1:=by rw [←hL,List.length_eraseIdx,if_pos hi]
   refine ⟨_,_,rfl,⟨hf.os,hf.tape,hf.output,hf.size,fun b hb hn=>hf.keep b hb fun e=>hn (by rw [e];rfl)⟩,fun g' hg'=>?_,by rw [hLl];exact ho',fun F' hF'=>?_⟩
   ·injection hg' with hg'
    subst hg'
    exact ⟨Nat.lt_of_lt_of_le hlt hf.size,.inr rfl⟩
   ·rw [←hL,List.eraseIdx_eq_take_drop_succ]
    exact ((hr.take i).append (hr.drop (i+1))).same (fun b hb=>(hF' b hb).2) fun b hb=>(hF' b hb).1
end
end Go.Proofs.YtjndcdcbjidocaaGreatDoor
