/- Part 20 of 24 of the proof of rollbackOptions_holds (no condition). -/
import Derived.Test.YtdaajdflefnjfaaGreatK19
import Derived.RangeFuncNested
import Derived.RangeFuncBox
import Derived.RangeFuncLeaves
set_option linter.unusedVariables false
set_option linter.unusedSimpArgs false
set_option maxRecDepth 100000
set_option maxHeartbeats 64000000
namespace Go.Proofs.YtdaajdflefnjfaaGreat
open Go.RowKit Go.Proofs.Tryz
theorem qF (q:Qu) (x:Pc) (a:Tm) (l:List Tm):dG q x (a :: l)=bif !aT a.name q.res.name || aY q.res (ay x.led.entries q.res.name) a.am then dG q x l else
  bif !(ai q x.proc).isSome then decide (aj q.holds x.proc=bG q.res (ay x.led.entries q.res.name) a.am) else
  bif q.waits.any (fun y=>decide (y.proc=x.proc) && !decide (y.prio=x.req.prio)) then false else
  decide (aj q.holds x.proc=ay x.led.entries q.res.name) && decide (ai q x.proc=some (bG q.res (ay x.led.entries q.res.name) a.am)):=rfl
theorem LA (d:Nat) (q:Qu) (x:Pc) (L:List Tm):FSpec prog 179 [q.a,x.a d,.one (.sl cL L)] [] [] (.b (dG q x L)) []:=by
 refine bJ func179 ?_
 refine bY (fun c ρ a w hr=>gc (t:=2) hr rfl) (fun hl2=>?_)
 refine bY (fun c ρ a w hr=>lR (t:=0) (i:=6) hr rfl rfl) (fun hl0_6=>?_)
 obtain ⟨b,hB⟩:∃b,dG q x L=b:=⟨_,rfl⟩
 rw [hB]
 obtain ⟨l,hl⟩:∃l,ay x.led.entries q.res.name=l:=⟨_,rfl⟩
 obtain ⟨h,hh⟩:∃h,aj q.holds x.proc=h:=⟨_,rfl⟩
 have kH:=eQ q x.proc
 have kL:=iY x.led.entries q.res.name
 rw [hh] at kH
 rw [hl] at kL
 obtain ⟨o,hw⟩:∃o,ai q x.proc=o:=⟨_,rfl⟩
 have kW:=bQ q x.proc hw
 obtain ⟨iw,hiw⟩:∃iw,o.isSome=iw:=⟨_,rfl⟩
 rw [hiw] at kW
 cases iw with
 | false =>
  obtain rfl:o=none:=by cases o with
   | none=>rfl
   | some=>cases hiw
  repeat' (first
   | refine af ?_ ?_
   | (refine aa 9 rfl ?_;first
    | (refine cB [] (kH) ?_)
    | (refine cB [] (kL) ?_)
    | (refine cB [] (kW) ?_))
   | refine en ?_
   | exact ah|refine ae fun hb=>?_)
  refine ao (fun i=>i≤L.length∧dG q x (L.drop i)=b) (fun i=>cy [3,4,7,8,9] [(2,.c (.sl cL L)),(3,.c (.ptr 3 0)),(4,.c (.ptr 4 0)),(7,.c (.ptr 7 0)),(8,.c (.ptr 8 0)),(9,.c (.ptr 9 0)),(10,.b false),(11,.i i)] [(3,.box 165 q.d),(4,.box 38 (x.d d)),(7,.box 29 [.sc (.int .i64 l.mode),.sc (.int .i64 l.units)]),(8,.box 29 [.sc (.int .i64 h.mode),.sc (.int .i64 h.units)]),(9,.box 29 [.any,.any])]) (fun i=>L.length-i) 0 ⟨Nat.zero_le _,hB⟩ (by exact ap (qf [])) ?_
  rintro i ⟨hi,hs⟩
  by_cases hlt:i<L.length
  ·obtain ⟨a,ha⟩:∃a,L[i]=a:=⟨_,rfl⟩
   have hga:L[i]? = some a:=by rw [List.getElem?_eq_getElem hlt,ha]
   rw [List.drop_eq_getElem_cons hlt,ha,qF,hl,hh,hw] at hs
   by_cases hnm:a.name.toList=q.res.name.toList
   ·rw [show aT a.name q.res.name=true by simp [aT,hnm]] at hs
    cases hcv:aY q.res l a.am with
    | true =>
     rw [hcv] at hs
     repeat' (first
      | refine af ?_ ?_
      | refine aa 9 rfl (cB [] (ew q.res l a.am) ?_)
      | refine en ?_
      | exact ah|refine ae fun hb=>?_)
     refine ⟨i+1,⟨by omega,hs⟩,by omega,?_⟩
     exact ap (qf [])
    | false =>
     rw [hcv] at hs
     simp at hs
     rw [←hs]
     repeat' (first
      | refine af ?_ ?_
      | (refine aa 9 rfl ?_;first
       | (refine cB [] (ew q.res l a.am) ?_)
       | (refine cB [] (Eg q.res l a.am) ?_))
      | refine en ?_
      | exact ah|refine ae fun hb=>?_
      | (refine aP (qf []) ?_;exact ab))
   ·rw [show aT a.name q.res.name=false by simp [aT,hnm]] at hs
    repeat' (first
     | refine af ?_ ?_
     | refine aa 9 rfl (cB [] (ew q.res l a.am) ?_)
     | refine en ?_
     | exact ah|refine ae fun hb=>?_)
    refine ⟨i+1,⟨by omega,hs⟩,by omega,?_⟩
    exact ap (qf [])
  ·rw [List.drop_eq_nil_of_le (by omega),show dG q x []=(decide (aj q.holds x.proc=ay x.led.entries q.res.name) && !(ai q x.proc).isSome) from rfl,hh,hl,hw] at hs
   simp at hs
   rw [←hs]
   repeat' (first
    | refine af ?_ ?_
    | refine en ?_
    | exact ah|refine ae fun hb=>?_)
   all_goals (refine pp ?_;simp [*])
 | true =>
  obtain ⟨m,rfl⟩:∃m,o=some m:=by cases o with
   | none=>cases hiw
   | some m=>exact ⟨m,rfl⟩
  repeat' (first
   | refine af ?_ ?_
   | (refine aa 9 rfl ?_;first
    | (refine cB [] (kH) ?_)
    | (refine cB [] (kL) ?_)
    | (refine cB [] (kW) ?_))
   | refine en ?_
   | exact ah|refine ae fun hb=>?_)
  refine ao (fun i=>i≤L.length∧dG q x (L.drop i)=b) (fun i=>cy [3,4,7,8,9] [(2,.c (.sl cL L)),(3,.c (.ptr 3 0)),(4,.c (.ptr 4 0)),(7,.c (.ptr 7 0)),(8,.c (.ptr 8 0)),(9,.c (.ptr 9 0)),(10,.b true),(11,.i i)] [(3,.box 165 q.d),(4,.box 38 (x.d d)),(7,.box 29 [.sc (.int .i64 l.mode),.sc (.int .i64 l.units)]),(8,.box 29 [.sc (.int .i64 h.mode),.sc (.int .i64 h.units)]),(9,.box 29 [.sc (.int .i64 m.mode),.sc (.int .i64 m.units)])]) (fun i=>L.length-i) 0 ⟨Nat.zero_le _,hB⟩ (by exact ap (qf [])) ?_
  rintro i ⟨hi,hs⟩
  by_cases hlt:i<L.length
  case neg =>
   rw [List.drop_eq_nil_of_le (by omega),show dG q x []=(decide (aj q.holds x.proc=ay x.led.entries q.res.name) && !(ai q x.proc).isSome) from rfl,hh,hl,hw] at hs
   simp at hs
   subst hs
   repeat' (first
    | refine af ?_ ?_
    | refine en ?_
    | exact ah|refine ae fun hb=>?_)
   all_goals (refine pp ?_;simp [*])
  obtain ⟨a,ha⟩:∃a,L[i]=a:=⟨_,rfl⟩
  have hga:L[i]? = some a:=by rw [List.getElem?_eq_getElem hlt,ha]
  rw [List.drop_eq_getElem_cons hlt,ha,qF,hl,hh,hw] at hs
  by_cases hnm:a.name.toList=q.res.name.toList
  case neg =>
   rw [show aT a.name q.res.name=false by simp [aT,hnm]] at hs
   repeat' (first
    | refine af ?_ ?_
    | refine aa 9 rfl (cB [] (ew q.res l a.am) ?_)
    | refine en ?_
    | exact ah|refine ae fun hb=>?_)
   refine ⟨i+1,⟨by omega,hs⟩,by omega,?_⟩
   exact ap (qf [])
  rw [show aT a.name q.res.name=true by simp [aT,hnm]] at hs
  cases hcv:aY q.res l a.am with
  | true =>
   rw [hcv] at hs
   repeat' (first
    | refine af ?_ ?_
    | refine aa 9 rfl (cB [] (ew q.res l a.am) ?_)
    | refine en ?_
    | exact ah|refine ae fun hb=>?_)
   refine ⟨i+1,⟨by omega,hs⟩,by omega,?_⟩
   exact ap (qf [])
  | false =>
   rw [hcv] at hs
   obtain ⟨f,hf⟩:∃f:Wt→Bool,f=fun y=>decide (y.proc=x.proc) && !decide (y.prio=x.req.prio):=⟨_,rfl⟩
   rw [←hf] at hs
   obtain ⟨j,hj⟩:∃j,bG q.res l a.am=j:=⟨_,rfl⟩
   have kJ:=Eg q.res l a.am
   rw [hj] at hs kJ
   simp only [Bool.not_true,Bool.or_self,cond_false,Option.isSome_some] at hs
   repeat' (first
    | refine af ?_ ?_
    | (refine aa 9 rfl ?_;first
     | (refine cB [] (ew q.res l a.am) ?_)
     | (refine cB [] (kJ) ?_))
    | refine en ?_
    | exact ah|refine ae fun hb=>?_)
   refine ao (fun k=>k≤q.waits.length∧q.waits.any f=(q.waits.drop k).any f) (fun k=>cy [3,4,7,8,9,13] [(3,.c (.ptr 3 0)),(4,.c (.ptr 4 0)),(7,.c (.ptr 7 0)),(8,.c (.ptr 8 0)),(9,.c (.ptr 9 0)),(13,.c (.ptr 13 0)),(14,.i k)] [(3,.box 165 q.d),(4,.box 38 (x.d d)),(7,.box 29 [.sc (.int .i64 l.mode),.sc (.int .i64 l.units)]),(8,.box 29 [.sc (.int .i64 h.mode),.sc (.int .i64 h.units)]),(9,.box 29 [.sc (.int .i64 m.mode),.sc (.int .i64 m.units)]),(13,.box 29 [.sc (.int .i64 j.mode),.sc (.int .i64 j.units)])]) (fun k=>q.waits.length-k) 0 ⟨Nat.zero_le _,rfl⟩ (by exact ap (qf [])) ?_
   rintro k ⟨hk,hany⟩
   by_cases hkl:k<q.waits.length
   case neg =>
    rw [List.drop_eq_nil_of_le (by omega),List.any_nil] at hany
    rw [hany] at hs
    rw [←hs]
    repeat' (first
     | refine af ?_ ?_
     | refine en ?_
     | exact ah|refine ae fun hb=>?_)
    all_goals (refine pp ?_;simp [*])
   obtain ⟨y,hy⟩:∃y,q.waits[k]=y:=⟨_,rfl⟩
   have hgy:q.waits[k]? = some y:=by rw [List.getElem?_eq_getElem hkl,hy]
   rw [List.drop_eq_getElem_cons hkl,hy,List.any_cons] at hany
   by_cases hfy:y.proc=x.proc∧y.prio≠x.req.prio
   ·obtain ⟨hf1,hf2⟩:=hfy
    rw [show f y=true by rw [hf];simp [hf1,hf2],Bool.true_or] at hany
    rw [hany] at hs
    rw [←hs]
    repeat' (first
     | refine af ?_ ?_
     | refine en ?_
     | exact ah|(refine ae fun hb=>?_;first|(exact (hf2 hb).elim)|(exact (hb hf1).elim)|skip))
    all_goals (refine pp ?_;rfl)
   ·rw [show f y=false by rw [hf];simp;intro h1;exact Classical.byContradiction fun h2=>hfy ⟨h1,h2⟩,Bool.false_or] at hany
    repeat' (first
     | refine af ?_ ?_
     | refine en ?_
     | exact ah|(refine ae fun hb=>?_;first|(exact (hfy ⟨by assumption,hb⟩).elim)|skip))
    all_goals (refine ⟨k+1,⟨by omega,hany⟩,by omega,?_⟩;exact ap (qf []))
theorem CP (t:List Qu) (p:Pr) (hl:t.length≤100000):FSpec prog 174 [.one (.sl lX t),p.a] [] [] (.c (.sl cL (gD t p))) []:=by
 refine bJ func174 ?_
 repeat' (first
  | refine af ?_ ?_
  | refine en ?_
  | exact ah|refine ae fun hb=>?_)
 refine dS 5 1000 31 cL rfl rfl rfl ?_
 refine ao (fun x:Nat×List Tm=>x.1≤t.length∧x.2.length≤x.1∧x.2++gD (t.drop x.1) p=gD t p) (fun x=>cy [3,1000] [(0,.c (.sl lX t)),(3,.c (.ptr 3 0)),(5,.c (.own 1000)),(6,.i x.1)] [(3,.box 23 [.sc (.int .i64 p.site),.sc (.int .i64 p.inc),.sc (.int .i64 p.num)]),(1000,.arr 31 cL x.2)]) (fun x=>t.length-x.1) (0,[]) ⟨Nat.zero_le _,Nat.le_refl _,rfl⟩ (by exact ap (qf [])) ?_
 rintro ⟨i,acc⟩ ⟨hi,hal,hs⟩
 dsimp only at *
 by_cases hlt:i<t.length
 ·have e:gD (t.drop i) p=(bif aF (aj t[i].holds p) then [] else [⟨t[i].res.name,aj t[i].holds p⟩])++gD (t.drop (i+1)) p:=by
   rw [List.drop_eq_getElem_cons hlt]
   unfold gD
   rw [List.map_cons,List.filter_cons]
   cases aF (aj t[i].holds p) <;> rfl
  rw [e] at hs
  repeat' (first
   | refine af ?_ ?_
   | (refine aa 8 rfl ?_;refine bc (ak rfl rfl (aI rfl rfl) (aO [⟨t[i].res.name,aj t[i].holds p⟩] rfl rfl rfl rfl) rfl aJ aJ) rfl rfl rfl ?_)
   | (refine aa 9 rfl ?_;first
    | (refine cB [] (eQ t[i] p) ?_)
    | (refine cB [] (j5 (aj t[i].holds p)) ?_))
   | refine en ?_
   | exact ah|refine ae fun hb=>?_)
  ·refine ⟨(i+1,acc++[⟨t[i].res.name,aj t[i].holds p⟩]),⟨by dsimp only;omega,by simp;omega,?_⟩,by dsimp only;omega,?_⟩
   ·rw [hb] at hs;rw [←hs];simp
   ·exact ap (qf [(1000,33)])
  ·refine ⟨(i+1,acc),⟨by dsimp only;omega,by dsimp only;omega,?_⟩,by dsimp only;omega,?_⟩
   ·rw [hb] at hs;rw [←hs];simp
   ·exact ap (qf [])
 ·have e:acc=gD t p:=by rw [←hs,List.drop_eq_nil_of_le (by omega)];simp [gD]
  repeat' (first
   | refine af ?_ ?_
   | refine en ?_
   | exact ah|refine ae fun hb=>?_)
  rw [←e]
  refine aP (qf []) ?_;exact ab
theorem H6 (t:List Qu) (p:Pr) (hl:t.length≤100000):FSpec prog 175 [.one (.sl lX t),p.a] [] [] (.c (.sl cL (cE p t))) []:=by
 refine bJ func175 ?_
 repeat' (first
  | refine af ?_ ?_
  | refine en ?_
  | exact ah|refine ae fun hb=>?_)
 refine dS 5 1000 31 cL rfl rfl rfl ?_
 refine ao (fun x:Nat×List Tm=>x.1≤t.length∧x.2.length≤x.1∧x.2++cE p (t.drop x.1)=cE p t) (fun x=>cy [3,1000] [(0,.c (.sl lX t)),(3,.c (.ptr 3 0)),(5,.c (.own 1000)),(6,.i x.1)] [(3,.box 23 [.sc (.int .i64 p.site),.sc (.int .i64 p.inc),.sc (.int .i64 p.num)]),(1000,.arr 31 cL x.2)]) (fun x=>t.length-x.1) (0,[]) ⟨Nat.zero_le _,Nat.le_refl _,rfl⟩ (by exact ap (qf [])) ?_
 rintro ⟨i,acc⟩ ⟨hi,hal,hs⟩
 dsimp only at *
 by_cases hlt:i<t.length
 ·rw [List.drop_eq_getElem_cons hlt] at hs
  cases hw:ai t[i] p with
  | some a =>
   rw [show cE p (t[i] :: t.drop (i+1))=⟨t[i].res.name,a⟩ :: cE p (t.drop (i+1)) by simp [cE,hw]] at hs
   repeat' (first
    | refine af ?_ ?_
    | (refine aa 8 rfl ?_;refine bc (ak rfl rfl (aI rfl rfl) (aO [⟨t[i].res.name,a⟩] rfl rfl rfl rfl) rfl aJ aJ) rfl rfl rfl ?_)
    | refine aa 9 rfl (cB [] (bQ t[i] p hw) ?_)
    | refine en ?_
    | exact ah|refine ae fun hb=>?_)
   refine ⟨(i+1,acc++[⟨t[i].res.name,a⟩]),⟨by dsimp only;omega,by simp;omega,?_⟩,by dsimp only;omega,?_⟩
   ·rw [←hs];simp
   ·exact ap (qf [(1000,35)])
  | none =>
   rw [show cE p (t[i] :: t.drop (i+1))=cE p (t.drop (i+1)) by simp [cE,hw]] at hs
   repeat' (first
    | refine af ?_ ?_
    | refine aa 9 rfl (cB [] (bQ t[i] p hw) ?_)
    | refine en ?_
    | exact ah|refine ae fun hb=>?_)
   refine ⟨(i+1,acc),⟨by dsimp only;omega,by dsimp only;omega,?_⟩,by dsimp only;omega,?_⟩
   ·rw [←hs]
   ·exact ap (qf [])
 ·have e:acc=cE p t:=by rw [←hs,List.drop_eq_nil_of_le (by omega)];simp [cE]
  repeat' (first
   | refine af ?_ ?_
   | refine en ?_
   | exact ah|refine ae fun hb=>?_)
  rw [←e]
  refine aP (qf []) ?_;exact ab
theorem sV (a b:List Tm):FSpec prog 51 [.one (.sl cL a),.one (.sl cL b)] [] [] (.b (decide (a=b))) []:=by
 refine bJ func51 ?_
 refine bY (fun c ρ a w hr=>gc (t:=0) hr rfl) (fun hl0=>?_)
 by_cases hl:a.length=b.length
 case neg =>
  have hne:a≠b:=fun e=>hl (by rw [e])
  rw [decide_eq_false hne]
  repeat' (first
   | refine af ?_ ?_
   | refine en ?_
   | exact ah|refine ae fun hb=>?_
   | (refine aP (qf []) ?_;exact ab))
 repeat' (first
  | refine af ?_ ?_
  | refine en ?_
  | exact ah|refine ae fun hb=>?_)
 refine ao (fun i=>i≤a.length∧((a=b)↔a.drop i=b.drop i)) (fun i=>cy [] [(0,.c (.sl cL a)),(1,.c (.sl cL b)),(5,.i i)] []) (fun i=>a.length-i) 0 ⟨Nat.zero_le _,Iff.rfl⟩ (by exact ap (qf [])) ?_
 rintro i ⟨hi,hs⟩
 by_cases hlt:i<a.length
 ·have hlt2:i<b.length:=by omega
  rw [List.drop_eq_getElem_cons hlt,List.drop_eq_getElem_cons hlt2,List.cons.injEq] at hs
  obtain ⟨x,hx⟩:∃x,a[i]? = some x:=⟨_,List.getElem?_eq_getElem hlt⟩
  obtain ⟨y,hy⟩:∃y,b[i]? = some y:=⟨_,List.getElem?_eq_getElem hlt2⟩
  have ex:a[i]=x:=(List.getElem?_eq_some_iff.1 hx).2
  have ey:b[i]=y:=(List.getElem?_eq_some_iff.1 hy).2
  rw [ex,ey] at hs
  clear ex ey
  by_cases he:x=y
  ·subst he
   repeat' (first
    | refine af ?_ ?_
    | refine en ?_
    | exact ah|(refine ae fun hb=>?_;first|(exact absurd rfl hb)|skip))
   refine ⟨i+1,⟨by omega,?_⟩,by omega,?_⟩
   ·rw [hs];simp
   ·exact ap (qf [])
  ·rw [decide_eq_false (fun e=>he (hs.1 e).1)]
   repeat' (first
    | refine af ?_ ?_
    | refine en ?_
    | exact ah|(refine ae fun hb=>?_;first|(exact absurd hb he)|skip)
    | (refine aP (qf []) ?_;exact ab))
 ·rw [List.drop_eq_nil_of_le (by omega),List.drop_eq_nil_of_le (by omega)] at hs
  rw [decide_eq_true (hs.2 rfl)]
  repeat' (first
   | refine af ?_ ?_
   | refine en ?_
   | exact ah|refine ae fun hb=>?_
   | (refine aP (qf []) ?_;exact ab))
theorem ME (l:List Tm):(((l.length:Nat):Int) == 0)=decide (l=[]):=by
 rw [Bool.eq_iff_iff]
 cases l with
 | nil=>simp
 | cons x l=>simp;omega
def Cs.d (d:Nat) (c:Cs):List D:=[.sc (.int .i64 c.now),.sl lX c.queues,.sl (sa d) c.procs]
def Cs.a (d:Nat) (c:Cs):V0:=.ag (c.d d)
def J4 (c:Cs) (a:Tm):Bool:=aU c.queues a.name && aC (bd c.queues a.name).res a.am
def LB (c:Cs) (x:Pc):Bool:=JB x.req && decide (x.since=0) && decide (iv x.led=gD c.queues x.proc) && decide (cE x.proc c.queues=[])
def IW (c:Cs) (x:Pc):Bool:=qo x.req && decide (iH c.queues x.req.expr=0) && decide (0≤x.since) && decide (x.since≤c.now) && (decide (x.req.limit=0) || decide (c.now<x.since+x.req.limit)) && !eV x.req.expr (br c.queues x.proc x.req.expr) && c.queues.all (fun q=>dG q x (cY x.req.expr))
theorem Fe (c:Cs) (x:Pc):qp c x=(fo x.proc && decide (1≤x.cost) && decide (x.cost≤1000) && n8 x.led && decide (0≤x.gen) && decide (x.gen≤1073741824) && (iv x.led).all (J4 c) && bif !x.waiting then LB c x else IW c x):=rfl
theorem Ff (d:Nat) (c:Cs) (x:Pc) (hn:0≤c.now∧c.now≤1073741824) (hV:eO c.queues=true) {b:Bool} (hB:qp c x=b):FSpec prog 123 [c.a d,x.a d] [] [] (.b b) []:=by
 refine bJ func123 ?_
 have hq8:=(cr hV).1
 rw [Fe] at hB
 have kV:=iA x.proc
 have kG:=bZ x.led
 obtain ⟨v,hv⟩:∃v,fo x.proc=v:=⟨_,rfl⟩
 rw [hv] at kV
 cases v with
 | false =>
  obtain rfl:b=false:=by rw [←hB,hv];rfl
  repeat' (first
   | refine af ?_ ?_
   | refine aa 9 rfl (cB [] (kV) ?_)
   | refine en ?_
   | exact ah|refine ae fun hb=>?_
   | (refine aP (qf []) ?_;exact ab))
 | true =>
  by_cases h1:1≤x.cost∧x.cost≤1000
  case neg =>
   obtain rfl:b=false:=by rw [←hB,show decide (1≤x.cost) = !decide (x.cost<1) by by_cases h:x.cost<1 <;> simp [h] <;> omega];by_cases h:x.cost<1 <;> simp [h] <;> omega
   by_cases h2:x.cost<1
   ·repeat' (first
     | refine af ?_ ?_
     | refine aa 9 rfl (cB [] (kV) ?_)
     | refine en ?_
     | exact ah|refine ae fun hb=>?_
     | (refine aP (qf []) ?_;exact ab))
   ·repeat' (first
     | refine af ?_ ?_
     | refine aa 9 rfl (cB [] (kV) ?_)
     | refine en ?_
     | exact ah|refine ae fun hb=>?_
     | (refine aP (qf []) ?_;exact ab))
  obtain ⟨h1,h2⟩:=h1
  rw [hv,decide_eq_true h1,decide_eq_true h2] at hB
  obtain ⟨g,hg⟩:∃g,n8 x.led=g:=⟨_,rfl⟩
  rw [hg] at kG hB
  cases g with
  | false =>
   obtain rfl:b=false:=by rw [←hB];rfl
   repeat' (first
    | refine af ?_ ?_
    | (refine aa 9 rfl ?_;first
     | (refine cB [] (kV) ?_)
     | (refine cB [] (kG) ?_))
    | refine en ?_
    | exact ah|refine ae fun hb=>?_
    | (refine aP (qf []) ?_;exact ab))
  | true =>
   by_cases h3:0≤x.gen∧x.gen≤1073741824
   case neg =>
    obtain rfl:b=false:=by rw [←hB];by_cases h:0≤x.gen <;> simp [h] <;> omega
    by_cases h4:x.gen<0
    ·repeat' (first
      | refine af ?_ ?_
      | (refine aa 9 rfl ?_;first
       | (refine cB [] (kV) ?_)
       | (refine cB [] (kG) ?_))
      | refine en ?_
      | exact ah|refine ae fun hb=>?_
      | (refine aP (qf []) ?_;exact ab))
    ·repeat' (first
      | refine af ?_ ?_
      | (refine aa 9 rfl ?_;first
       | (refine cB [] (kV) ?_)
       | (refine cB [] (kG) ?_))
      | refine en ?_
      | exact ah|refine ae fun hb=>?_
      | (refine aP (qf []) ?_;exact ab))
   obtain ⟨h3,h4⟩:=h3
   rw [decide_eq_true h3,decide_eq_true h4] at hB
   simp only [Bool.true_and] at hB
   have kH:=zP x.led (gh hg).1
   obtain ⟨L,hL⟩:∃L,iv x.led=L:=⟨_,rfl⟩
   have hL8:L.length≤8:=by
    rw [←hL]
    unfold iv
    exact Nat.le_trans (List.length_filter_le _ _) (by rw [List.length_map];exact (eS.1 hg).nms)
   rw [hL] at kH hB
   repeat' (first
    | refine af ?_ ?_
    | (refine aa 9 rfl ?_;first
     | (refine cB [] (kV) ?_)
     | (refine cB [] (kG) ?_)
     | (refine cC [] (kH) ?_))
    | refine en ?_
    | exact ah|refine ae fun hb=>?_)
   refine ao (fun i=>i≤L.length∧(L.all (J4 c)=(L.drop i).all (J4 c))) (fun i=>cy [2,3] [(2,.c (.ptr 2 0)),(3,.c (.ptr 3 0)),(5,.c (.sl cL L)),(6,.i i)] [(2,.box 49 (c.d d)),(3,.box 38 (x.d d))]) (fun i=>L.length-i) 0 ⟨Nat.zero_le _,rfl⟩ (by exact ap (qf [])) ?_
   rintro i ⟨hi,hs⟩
   by_cases hlt:i<L.length
   ·obtain ⟨a,ha⟩:∃a,L[i]? = some a:=⟨_,List.getElem?_eq_getElem hlt⟩
    have ea:L[i]=a:=(List.getElem?_eq_some_iff.1 ha).2
    rw [List.drop_eq_getElem_cons hlt,ea,List.all_cons] at hs
    by_cases hk:bw a.name 0 c.queues<0
    ·have hf:J4 c a=false:=by unfold J4 aU;rw [decide_eq_false (by omega)];rfl
     obtain rfl:b=false:=by rw [←hB,hs,hf];rfl
     have kF:=pt c.queues a.name
     repeat' (first
      | refine af ?_ ?_
      | refine aa 9 rfl (cB [] (kF) ?_)
      | refine en ?_
      | exact ah|refine ae fun hb=>?_
      | (refine aP (qf []) ?_;exact ab))
    ·obtain ⟨j,hj,hF,hqa,hx⟩:=gg hk
     have kF:=cV c.queues a.name hF
     obtain ⟨q,hq⟩:∃q,c.queues[j]? = some q:=⟨_,List.getElem?_eq_getElem hj⟩
     have eq:c.queues[j]=q:=(List.getElem?_eq_some_iff.1 hq).2
     have hf:J4 c a=aC q.res a.am:=by
      unfold J4 aU bd
      rw [hqa,eq,decide_eq_true (by omega)]
      rfl
     have kR:=oc q.res a.am
     obtain ⟨f,hff⟩:∃f,aC q.res a.am=f:=⟨_,rfl⟩
     rw [hff] at kR hf
     rw [hf] at hs
     clear hF hk hqa hx
     cases f with
     | false =>
      obtain rfl:b=false:=by rw [←hB,hs];rfl
      repeat' (first
       | refine af ?_ ?_
       | (refine aa 9 rfl ?_;first
        | (refine cB [] (kF) ?_)
        | (refine cB [] (kR) ?_))
       | refine en ?_
       | exact ah|refine ae fun hb=>?_
       | (refine aP (qf []) ?_;exact ab))
     | true =>
      repeat' (first
       | refine af ?_ ?_
       | (refine aa 9 rfl ?_;first
        | (refine cB [] (kF) ?_)
        | (refine cB [] (kR) ?_))
       | refine en ?_
       | exact ah|refine ae fun hb=>?_)
      refine ⟨i+1,⟨by omega,?_⟩,by omega,?_⟩
      ·rw [hs,Bool.true_and]
      ·exact ap (qf [])
   rw [List.drop_eq_nil_of_le (by omega),List.all_nil] at hs
   rw [hs,Bool.true_and] at hB
   clear hs
   cases hw:x.waiting with
   | false =>
    rw [hw,Bool.not_false,cond_true] at hB
    rw [←hB]
    have kA:=CB d x.req
    have kO:=CP c.queues x.proc (by omega)
    have kS:=sV L (gD c.queues x.proc)
    have kC:=H6 c.queues x.proc (by omega)
    repeat' (first
     | refine af ?_ ?_
     | (refine aa 9 rfl ?_;first
      | (refine cB [] (kA) ?_)
      | (refine cC [] (kO) ?_)
      | (refine cB [] (kS) ?_)
      | (refine cC [] (kC) ?_))
     | refine en ?_
     | exact ah|(refine ae fun hb=>?_;first|(cases hw.symm.trans hb;done)|skip))
    all_goals (refine pp ?_;rw [←hL] at *;simp [LB,ME, *])
   | true =>
    rw [hw,Bool.not_true,cond_false] at hB
    unfold IW at hB
    have kQ:=sm d x.req
    have kC:=xX c.queues (by omega)
    have kR:=Lm d c.queues x.req.expr hV
    obtain ⟨rq,hrq⟩:∃rq,qo x.req=rq:=⟨_,rfl⟩
    rw [hrq] at kQ hB
    cases rq with
    | false =>
     obtain rfl:b=false:=by rw [←hB];rfl
     repeat' (first
      | refine af ?_ ?_
      | refine aa 9 rfl (cB [] (kQ) ?_)
      | refine en ?_
      | exact ah|(refine ae fun hb=>?_;first|(cases hw.symm.trans hb;done)|skip)
      | (refine aP (qf []) ?_;exact ab))
    | true =>
     obtain ⟨e,he⟩:∃e,iH c.queues x.req.expr=e:=⟨_,rfl⟩
     rw [he] at kR hB
     by_cases h0:e=0
     case neg =>
      obtain rfl:b=false:=by rw [←hB,decide_eq_false h0];rfl
      repeat' (first
       | refine af ?_ ?_
       | (refine aa 9 rfl ?_;first
        | (refine cB [] (kQ) ?_)
        | (refine cC [] (kC) ?_)
        | (refine cB [] (kR) ?_))
       | refine en ?_
       | exact ah|(refine ae fun hb=>?_;first|(cases hw.symm.trans hb;done)|(exact absurd hb h0)|skip)
       | (refine aP (qf []) ?_;exact ab))
     subst h0
     have hlim:0≤x.req.limit∧x.req.limit≤1000:=by
      unfold qo at hrq
      simp only [Bool.and_eq_true,decide_eq_true_eq] at hrq
      exact ⟨hrq.1.2,hrq.2⟩
     have hgl:(br c.queues x.proc x.req.expr).length≤1000:=by have:=dy x.req.expr;simp [br];omega
     have kGr:=lA d c.queues x.proc x.req.expr
     have kHo:=vN d x.req.expr (br c.queues x.proc x.req.expr) hgl
     obtain ⟨T,hT⟩:∃T,cY x.req.expr=T:=⟨_,rfl⟩
     rw [hT] at hB
     have kAt:=ji d x.req.expr hT
     by_cases hsn:0≤x.since∧x.since≤c.now
     case neg =>
      obtain rfl:b=false:=by rw [←hB];by_cases h:0≤x.since <;> simp [h] <;> omega
      by_cases h9:x.since<0
      ·repeat' (first
        | refine af ?_ ?_
        | (refine aa 9 rfl ?_;first
         | (refine cB [] (kQ) ?_)
         | (refine cC [] (kC) ?_)
         | (refine cB [] (kR) ?_))
        | refine en ?_
        | exact ah|(refine ae fun hb=>?_;first|(cases hw.symm.trans hb;done)|skip)
        | (refine aP (qf []) ?_;exact ab))
      ·repeat' (first
        | refine af ?_ ?_
        | (refine aa 9 rfl ?_;first
         | (refine cB [] (kQ) ?_)
         | (refine cC [] (kC) ?_)
         | (refine cB [] (kR) ?_))
        | refine en ?_
        | exact ah|(refine ae fun hb=>?_;first|(cases hw.symm.trans hb;done)|skip)
        | (refine aP (qf []) ?_;exact ab))
     obtain ⟨hs1,hs2⟩:=hsn
     rw [decide_eq_true hs1,decide_eq_true hs2] at hB
     simp only [decide_true,Bool.true_and] at hB
     by_cases hli:x.req.limit=0∨c.now<x.since+x.req.limit
     case neg =>
      obtain rfl:b=false:=by rw [←hB,decide_eq_false (fun h=>hli (.inl h)),decide_eq_false (fun h=>hli (.inr h))];rfl
      rw [not_or] at hli
      obtain ⟨hl1,hl2⟩:=hli
      repeat' (first
       | refine af ?_ ?_
       | (refine aa 9 rfl ?_;first
        | (refine cB [] (kQ) ?_)
        | (refine cC [] (kC) ?_)
        | (refine cB [] (kR) ?_))
       | refine en ?_
       | exact ah|(refine ae fun hb=>?_;first|(cases hw.symm.trans hb;done)|(exact absurd hb hl1)|skip)
       | (refine aP (qf []) ?_;exact ab))
     have hli':(decide (x.req.limit=0) || decide (c.now<x.since+x.req.limit))=true:=by simpa using hli
     rw [hli',Bool.true_and] at hB
     obtain ⟨ho,hho⟩:∃ho,eV x.req.expr (br c.queues x.proc x.req.expr)=ho:=⟨_,rfl⟩
     rw [hho] at kHo hB
     cases ho with
     | true =>
      obtain rfl:b=false:=by rw [←hB];rfl
      rcases hli with hl1|hl1
      ·repeat' (first
        | refine af ?_ ?_
        | (refine aa 9 rfl ?_;first
         | (refine cB [] (kQ) ?_)
         | (refine cC [] (kC) ?_)
         | (refine cB [] (kR) ?_)
         | (refine cC [] (kGr) ?_)
         | (refine cB [] (kHo) ?_))
        | refine en ?_
        | exact ah|(refine ae fun hb=>?_;first|(cases hw.symm.trans hb;done)|(exact absurd hl1 hb)|skip)
        | (refine aP (qf []) ?_;exact ab))
      ·by_cases hl2:x.req.limit=0
       ·repeat' (first
         | refine af ?_ ?_
         | (refine aa 9 rfl ?_;first
          | (refine cB [] (kQ) ?_)
          | (refine cC [] (kC) ?_)
          | (refine cB [] (kR) ?_)
          | (refine cC [] (kGr) ?_)
          | (refine cB [] (kHo) ?_))
         | refine en ?_
         | exact ah|(refine ae fun hb=>?_;first|(cases hw.symm.trans hb;done)|(exact absurd hl2 hb)|skip)
         | (refine aP (qf []) ?_;exact ab))
       ·repeat' (first
         | refine af ?_ ?_
         | (refine aa 9 rfl ?_;first
          | (refine cB [] (kQ) ?_)
          | (refine cC [] (kC) ?_)
          | (refine cB [] (kR) ?_)
          | (refine cC [] (kGr) ?_)
          | (refine cB [] (kHo) ?_))
         | refine en ?_
         | exact ah|(refine ae fun hb=>?_;first|(cases hw.symm.trans hb;done)|(exact absurd hb hl2)|skip)
         | (refine aP (qf []) ?_;exact ab))
     | false =>
      rw [Bool.not_false,Bool.true_and] at hB
      obtain ⟨F,hF⟩:∃F:Qu→Bool,(fun q=>dG q x T)=F:=⟨_,rfl⟩
      have hF':∀q,dG q x T=F q:=fun q=>congrFun hF q
      rw [hF] at hB
      by_cases hl2:x.req.limit=0
      case' pos =>
       repeat' (first
        | refine af ?_ ?_
        | (refine aa 9 rfl ?_;first
         | (refine cB [] (kQ) ?_)
         | (refine cC [] (kC) ?_)
         | (refine cB [] (kR) ?_)
         | (refine cC [] (kGr) ?_)
         | (refine cB [] (kHo) ?_)
         | (refine cC [] (kAt) ?_))
        | refine en ?_
        | exact ah|(refine ae fun hb=>?_;first|(cases hw.symm.trans hb;done)|(exact absurd hl2 hb)|skip))
      case' neg =>
       repeat' (first
        | refine af ?_ ?_
        | (refine aa 9 rfl ?_;first
         | (refine cB [] (kQ) ?_)
         | (refine cC [] (kC) ?_)
         | (refine cB [] (kR) ?_)
         | (refine cC [] (kGr) ?_)
         | (refine cB [] (kHo) ?_)
         | (refine cC [] (kAt) ?_))
        | refine en ?_
        | exact ah|(refine ae fun hb=>?_;first|(cases hw.symm.trans hb;done)|(exact absurd hb hl2)|skip))
      all_goals
       refine ao (fun i=>i≤c.queues.length∧(c.queues.all F=(c.queues.drop i).all F)) (fun i=>cy [2,3] [(2,.c (.ptr 2 0)),(3,.c (.ptr 3 0)),(9,.c (.sl cL T)),(10,.i i)] [(2,.box 49 (c.d d)),(3,.box 38 (x.d d))]) (fun i=>c.queues.length-i) 0 ⟨Nat.zero_le _,rfl⟩ (by exact ap (qf [])) ?_
       clear kAt kHo kGr kR kC kQ hli'
       rintro i ⟨hi,hs⟩
       by_cases hlt:i<c.queues.length
       ·obtain ⟨q,hq⟩:∃q,c.queues[i]? = some q:=⟨_,List.getElem?_eq_getElem hlt⟩
        have eq:c.queues[i]=q:=(List.getElem?_eq_some_iff.1 hq).2
        rw [List.drop_eq_getElem_cons hlt,eq,List.all_cons] at hs
        have kP:=LA d q x T
        rw [hF'] at kP
        obtain ⟨f,hff⟩:∃f,F q=f:=⟨_,rfl⟩
        rw [hff] at kP hs
        cases f with
        | false =>
         obtain rfl:b=false:=by rw [←hB,hs];rfl
         repeat' (first
          | refine af ?_ ?_
          | refine aa 9 rfl (cB [] (kP) ?_)
          | refine en ?_
          | exact ah|refine ae fun hb=>?_
          | (refine aP (qf []) ?_;exact ab))
        | true =>
         repeat' (first
          | refine af ?_ ?_
          | refine aa 9 rfl (cB [] (kP) ?_)
          | refine en ?_
          | exact ah|refine ae fun hb=>?_)
         refine ⟨i+1,⟨by omega,?_⟩,by omega,?_⟩
         ·rw [hs,Bool.true_and]
         ·exact ap (qf [])
       ·rw [List.drop_eq_nil_of_le (by omega),List.all_nil] at hs
        obtain rfl:b=true:=by rw [←hB,hs]
        repeat' (first
         | refine af ?_ ?_
         | refine en ?_
         | exact ah|refine ae fun hb=>?_
         | (refine aP (qf []) ?_;exact ab))
theorem CQ (c:Cs) (o:Option Pr) (x:Pc) (l:List Pc):xG c o (x :: l)=(qp c x && IC o x.proc && xG c (some x.proc) l):=rfl
theorem H7 (d:Nat) (c:Cs) {b:Bool} (hB:gE c=b):FSpec prog 89 [c.a d] [] [] (.b b) []:=by
 refine bJ func89 ?_
 unfold gE at hB
 have kV:=dl c.queues
 obtain ⟨v,hv⟩:∃v,eO c.queues=v:=⟨_,rfl⟩
 rw [hv] at kV
 by_cases h1:0≤c.now∧c.now≤1073741824
 case neg =>
  obtain rfl:b=false:=by rw [←hB];by_cases h:0≤c.now <;> simp [h] <;> omega
  by_cases h2:c.now<0
  ·repeat' (first
    | refine af ?_ ?_
    | refine en ?_
    | exact ah|refine ae fun hb=>?_
    | (refine aP (qf []) ?_;exact ab))
  ·repeat' (first
    | refine af ?_ ?_
    | refine en ?_
    | exact ah|refine ae fun hb=>?_
    | (refine aP (qf []) ?_;exact ab))
 have hn:=h1
 obtain ⟨h1,h2⟩:=h1
 rw [hv,decide_eq_true h1,decide_eq_true h2] at hB
 cases v with
 | false =>
  obtain rfl:b=false:=by rw [←hB];rfl
  repeat' (first
   | refine af ?_ ?_
   | refine aa 9 rfl (cB [] (kV) ?_)
   | refine en ?_
   | exact ah|refine ae fun hb=>?_
   | (refine aP (qf []) ?_;exact ab))
 | true =>
  have hp8:=cr hv
  by_cases h8:c.procs.length≤8
  case neg =>
   obtain rfl:b=false:=by rw [←hB,decide_eq_false h8];rfl
   repeat' (first
    | refine af ?_ ?_
    | refine aa 9 rfl (cB [] (kV) ?_)
    | refine en ?_
    | exact ah|refine ae fun hb=>?_
    | (refine aP (qf []) ?_;exact ab))
  rw [decide_eq_true h8] at hB
  simp only [Bool.true_and] at hB
  obtain ⟨L,hL⟩:∃L,aD c.queues=L:=⟨_,rfl⟩
  have kP:=oe c.queues (by omega) (fun q hq=>mV (dK hv hq))
  have hLl:L.length≤8:=by rw [←hL];exact hp8.2.2
  rw [hL] at kP hB
  obtain ⟨G,hG⟩:∃G:Pr→Bool,(fun p=>decide (0≤fm p 0 c.procs))=G:=⟨_,rfl⟩
  have hG':∀p,decide (0≤fm p 0 c.procs)=G p:=fun p=>congrFun hG p
  rw [hG] at hB
  repeat' (first
   | refine af ?_ ?_
   | (refine aa 9 rfl ?_;first
    | (refine cB [] (kV) ?_)
    | (refine cC [] (kP) ?_))
   | refine en ?_
   | exact ah|refine ae fun hb=>?_)
  refine ao (fun i=>i≤L.length∧(L.all G=(L.drop i).all G)) (fun i=>cy [1] [(1,.c (.ptr 1 0)),(3,.c (.sl nu L)),(4,.i i)] [(1,.box 49 (c.d d))]) (fun i=>L.length-i) 0 ⟨Nat.zero_le _,rfl⟩ (by exact ap (qf [])) ?_
  rintro i ⟨hi,hs⟩
  by_cases hlt:i<L.length
  ·obtain ⟨p,hp⟩:∃p,L[i]? = some p:=⟨_,List.getElem?_eq_getElem hlt⟩
   have ep:L[i]=p:=(List.getElem?_eq_some_iff.1 hp).2
   rw [List.drop_eq_getElem_cons hlt,ep,List.all_cons] at hs
   obtain ⟨ix,hix⟩:∃ix,fm p 0 c.procs=ix:=⟨_,rfl⟩
   have kI:=wi c.procs d p hix
   have hgp:=hG' p
   rw [hix] at hgp
   by_cases h0:0≤ix
   ·rw [decide_eq_true h0] at hgp
    repeat' (first
     | refine af ?_ ?_
     | refine aa 9 rfl (cB [] (kI) ?_)
     | refine en ?_
     | exact ah|refine ae fun hb=>?_)
    refine ⟨i+1,⟨by omega,?_⟩,by omega,?_⟩
    ·rw [hs,←hgp,Bool.true_and]
    ·exact ap (qf [])
   ·rw [decide_eq_false h0] at hgp
    obtain rfl:b=false:=by rw [←hB,hs,←hgp];rfl
    repeat' (first
     | refine af ?_ ?_
     | refine aa 9 rfl (cB [] (kI) ?_)
     | refine en ?_
     | exact ah|refine ae fun hb=>?_
     | (refine aP (qf []) ?_;exact ab))
  rw [List.drop_eq_nil_of_le (by omega),List.all_nil] at hs
  rw [hs,Bool.true_and] at hB
  clear hs hG hG' kP kV
  repeat' (first
   | refine af ?_ ?_
   | refine en ?_
   | exact ah|refine ae fun hb=>?_)
  refine ao (fun y:Nat×Option Pr=>y.1≤c.procs.length∧(y.1=0∧y.2=none∨0<y.1∧∃z,c.procs[((y.1:Int)-1).toNat]? = some z∧y.2=some z.proc)∧xG c y.2 (c.procs.drop y.1)=b) (fun y=>cy [1] [(1,.c (.ptr 1 0)),(5,.i y.1)] [(1,.box 49 (c.d d))]) (fun y=>c.procs.length-y.1) (0,none) ⟨Nat.zero_le _,.inl ⟨rfl,rfl⟩,hB⟩ (by exact ap (qf [])) ?_
  clear hB
  rintro ⟨i,o⟩ ⟨hi,ho,hs⟩
  dsimp only at *
  by_cases hlt:i<c.procs.length
  ·obtain ⟨x,hx⟩:∃x,c.procs[i]? = some x:=⟨_,List.getElem?_eq_getElem hlt⟩
   have ex:c.procs[i]=x:=(List.getElem?_eq_some_iff.1 hx).2
   rw [List.drop_eq_getElem_cons hlt,ex,CQ] at hs
   obtain ⟨pb,hpb⟩:∃pb,qp c x=pb:=⟨_,rfl⟩
   have kP:=Ff d c x hn hv hpb
   rw [hpb] at hs
   have hx2:c.procs[((i+1:Nat):Int).toNat-1]? = some x:=by rw [←hx];congr 1
   cases pb with
   | false =>
    obtain rfl:b=false:=hs.symm
    repeat' (first
     | refine af ?_ ?_
     | refine aa 9 rfl (cB [] (kP) ?_)
     | refine en ?_
     | exact ah|refine ae fun hb=>?_
     | (refine aP (qf []) ?_;exact ab))
   | true =>
    rw [Bool.true_and] at hs
    rcases ho with ⟨h0,rfl⟩|⟨h0,z,hz,rfl⟩
    ·rw [show IC none x.proc=true from rfl,Bool.true_and] at hs
     repeat' (first
      | refine af ?_ ?_
      | refine aa 9 rfl (cB [] (kP) ?_)
      | refine en ?_
      | exact ah|refine ae fun hb=>?_)
     refine ⟨(i+1,some x.proc),⟨by dsimp only;omega,.inr ⟨by dsimp only;omega,x,?_,rfl⟩,hs⟩,by dsimp only;omega,?_⟩
     ·dsimp only
      rw [←hx]
      congr 1
      omega
     ·exact ap (qf [])
    ·have kC:=xQ z.proc x.proc
     obtain ⟨e,he⟩:∃e,dw z.proc x.proc=e:=⟨_,rfl⟩
     rw [show IC (some z.proc) x.proc=decide (dw z.proc x.proc<0) from rfl,he] at hs
     rw [he] at kC
     by_cases hneg:e<0
     ·rw [decide_eq_true hneg,Bool.true_and] at hs
      repeat' (first
       | refine af ?_ ?_
       | (refine aa 9 rfl ?_;first
        | (refine cB [] (kP) ?_)
        | (refine cB [] (kC) ?_))
       | refine en ?_
       | exact ah|refine ae fun hb=>?_)
      refine ⟨(i+1,some x.proc),⟨by dsimp only;omega,.inr ⟨by dsimp only;omega,x,?_,rfl⟩,hs⟩,by dsimp only;omega,?_⟩
      ·dsimp only
       rw [←hx]
       congr 1
       omega
      ·exact ap (qf [])
     ·rw [decide_eq_false hneg] at hs
      obtain rfl:b=false:=hs.symm
      repeat' (first
       | refine af ?_ ?_
       | (refine aa 9 rfl ?_;first
        | (refine cB [] (kP) ?_)
        | (refine cB [] (kC) ?_))
       | refine en ?_
       | exact ah|refine ae fun hb=>?_
       | (refine aP (qf []) ?_;exact ab))
  ·rw [List.drop_eq_nil_of_le (by omega)] at hs
   obtain rfl:b=true:=hs.symm
   repeat' (first
    | refine af ?_ ?_
    | refine en ?_
    | exact ah|refine ae fun hb=>?_
    | (refine aP (qf []) ?_;exact ab))
theorem J5 (d:Nat) (c:Cs) (h1:c.queues.length≤100000) (h2:c.procs.length≤100000):FSpec prog 99 [c.a d] [] [1,2] (.v (.ag [.sc (.int .i64 c.now),.own 1,.own 2])) [(1,some (.arr 165 lX c.queues)),(2,some (.arr 38 (sa d) c.procs))]:=by
 refine bJ func99 ?_
 repeat' (first
  | refine af ?_ ?_
  | refine en ?_
  | exact ah|refine ae fun hb=>?_
  | (refine aP (qf [(1,6),(2,11)]) ?_;exact ab))
def M2 (d:Nat) (R:Cs×List Ev×Int):TV:=.tup [R.1.a d,.one (.sl qq R.2.1),.one (.sc (.int .i64 R.2.2))]
theorem M3 (d:Nat) (c:Cs) (k:Cm) {R:Cs×List Ev×Int} (hR:Cr c k=R):FSpec prog 61 [c.a d,k.a d] [] [] (M2 d R) []:=by
 refine bJ func61 ?_
 unfold Cr at hR
 obtain ⟨v,hv⟩:∃v,gE c=v:=⟨_,rfl⟩
 have kV:=H7 d c hv
 rw [hv] at hR
 cases v with
 | false =>
  obtain rfl:R=(L4,[],2):=hR.symm
  repeat' (first
   | refine af ?_ ?_
   | refine aa 9 rfl (cB [] (kV) ?_)
   | refine en ?_
   | exact ah|refine ae fun hb=>?_
   | (refine gK (qf []) ?_;exact ab))
 | true =>
  rw [Bool.not_true,cond_false] at hR
  obtain ⟨hci,hun⟩:=fY.1 hv
  obtain ⟨Z,hZ⟩:∃Z,D1 ⟨c,[]⟩ k=Z:=⟨_,rfl⟩
  have kD:=MD d ⟨c,[]⟩ k hci (fun x hx=>pJ (hun x hx)) (by simp) hZ
  have kC:=J5 d c (by have:=(cr hci.tv).1;omega) (by have:=hci.len;omega)
  rw [hZ] at hR
  repeat' (first
   | refine af ?_ ?_
   | (refine aa 9 rfl ?_;first
    | (refine cB [] (kV) ?_)
    | (refine cH (qf [(1,1001),(2,1002)]) (kC) ?_))
   | ((fail_if_success (first|refine xM 4 ?_|refine xN 4 ?_));refine en ?_)
   | exact ah|refine ae fun hb=>?_)
  refine sd 1001 rfl ?_
  refine Ec 16 2 1002 rfl rfl rfl rfl ?_
  refine jJ 16 3 1003 296 qq rfl rfl rfl rfl ?_
  by_cases h0:Z.2=0
  ·rw [decide_eq_true h0] at hR
   obtain rfl:R=(Z.1.c,Z.1.ev,0):=hR.symm
   repeat' (first
    | refine af ?_ ?_
    | refine aa 9 rfl (cH (qf [(0,16),(1,1002),(2,1003),(3,1004),(4,1005)]) (kD) ?_)
    | refine en ?_
    | exact ah|refine ae fun hb=>?_
    | (refine gK (qf []) ?_;exact ab))
  ·rw [decide_eq_false h0] at hR
   obtain rfl:R=(L4,[],Z.2):=hR.symm
   repeat' (first
    | refine af ?_ ?_
    | refine aa 9 rfl (cH (qf [(0,16),(1,1002),(2,1003),(3,1004),(4,1005)]) (kD) ?_)
    | refine en ?_
    | exact ah|refine ae fun hb=>?_
    | (refine gK (qf []) ?_;exact ab))
theorem LC (l:List Rs) (hc:CatOk l):FSpec prog 60 [.one (.sl fJ l)] [] [] (.tup [.one (.sl lX (l.map ko)),.one (.sc (.int .i64 0))]) []:=by
 refine bJ func60 ?_
 have h8:=hc.len
 have kV:=ml l hc
 repeat' (first
  | refine af ?_ ?_
  | refine aa 9 rfl (cB [] (kV) ?_)
  | refine en ?_
  | exact ah|refine ae fun hb=>?_)
 refine dS 4 1000 165 lX rfl rfl rfl ?_
 refine ao (fun y:Nat×List Qu=>y.1≤l.length∧y.2=(l.take y.1).map ko) (fun y=>cy [1000] [(0,.c (.sl fJ l)),(4,.c (.own 1000)),(5,.i y.1)] [(1000,.arr 165 lX y.2)]) (fun y=>l.length-y.1) (0,[]) ⟨Nat.zero_le _,rfl⟩ (by exact ap (qf [])) ?_
 rintro ⟨i,T⟩ ⟨hi,hT⟩
 dsimp only at *
 have hTl:T.length=i:=by rw [hT];simp;omega
 by_cases hlt:i<l.length
 ·obtain ⟨r,hr⟩:∃r,l[i]? = some r:=⟨_,List.getElem?_eq_getElem hlt⟩
  have er:l[i]=r:=(List.getElem?_eq_some_iff.1 hr).2
  repeat' (first
   | refine af ?_ ?_
   | (refine aa 8 rfl ?_;refine sx (ak rfl rfl (aI rfl rfl) (xP [ko r] rfl rfl rfl) rfl aJ aJ) ?_)
   | refine en ?_
   | exact ah|refine ae fun hb=>?_)
  refine ⟨(i+1,T++[ko r]),⟨by dsimp only;omega,?_⟩,by dsimp only;omega,?_⟩
  ·dsimp only
   rw [hT,List.take_succ_eq_append_getElem hlt,er]
   simp
  ·exact ap (qf [(1000,22)])
 ·obtain rfl:T=l.map ko:=by rw [hT,List.take_of_length_le (by omega)]
  repeat' (first
   | refine af ?_ ?_
   | refine en ?_
   | exact ah|refine ae fun hb=>?_
   | (refine mu (qf []) ?_;exact ab))
theorem LD (d:Nat) (l:List Rs) (hc:CatOk l):FSpec prog 22 [.one (.sl fJ l)] [] [] (.tup [(Cs.mk 0 (l.map ko) []).a d,.one (.sc (.int .i64 0))]) []:=by
 refine bJ func22 ?_
 have kT:=LC l hc
 repeat' (first
  | refine af ?_ ?_
  | refine aa 9 rfl (cC [] (kT) ?_)
  | refine en ?_
  | exact ah|refine ae fun hb=>?_
  | (refine mu (qf []) ?_;exact ab))
theorem CR (c:Cs) (k:Cm) (l:List Cm):yi c (k :: l)=yi (bif decide ((Cr c k).2.2=0) then (Cr c k).1 else c) l:=rfl
theorem LE (c:Cs) (ks:List Cm) {W:Cs} (hW:yi c ks=W):FSpec prog 23 [c.a 2,.one (.sl (IV 2) ks)] [] [] (.v (W.a 2)) []:=by
 refine bJ func23 ?_
 refine bY (fun c ρ a w hr=>gc (t:=1) hr rfl) (fun hl1=>?_)
 repeat' (first
  | refine af ?_ ?_
  | refine en ?_
  | exact ah|refine ae fun hb=>?_)
 refine ao (fun y:Nat×Cs=>y.1≤ks.length∧yi y.2 (ks.drop y.1)=W) (fun y=>cy [2,4] [(1,.c (.sl (IV 2) ks)),(2,.c (.ptr 2 0)),(4,.c (.ptr 4 0)),(5,.i y.1)] [(2,.box 49 (y.2.d 2)),(4,.box 49 [.sc (.int .i64 0),.sc (.slice none 0 0),.sc (.slice none 0 0)])]) (fun y=>ks.length-y.1) (0,c) ⟨Nat.zero_le _,hW⟩ (by exact ap (qf [])) ?_
 clear hW c
 rintro ⟨i,c⟩ ⟨hi,hs⟩
 dsimp only at *
 by_cases hlt:i<ks.length
 ·obtain ⟨k,hk⟩:∃k,ks[i]? = some k:=⟨_,List.getElem?_eq_getElem hlt⟩
  have ek:ks[i]=k:=(List.getElem?_eq_some_iff.1 hk).2
  rw [List.drop_eq_getElem_cons hlt,ek,CR] at hs
  obtain ⟨R,hR⟩:∃R,Cr c k=R:=⟨_,rfl⟩
  have kD:=M3 2 c k hR
  rw [hR] at hs
  by_cases h0:R.2.2=0
  ·rw [decide_eq_true h0,cond_true] at hs
   repeat' (first
    | refine af ?_ ?_
    | refine aa 9 rfl (cC [] (kD) ?_)
    | refine en ?_
    | exact ah|(refine ae fun hb=>?_;first|(exact absurd h0 hb)|skip))
   refine ⟨(i+1,R.1),⟨by dsimp only;omega,hs⟩,by dsimp only;omega,?_⟩
   exact ap (qf [])
  ·rw [decide_eq_false h0,cond_false] at hs
   repeat' (first
    | refine af ?_ ?_
    | refine aa 9 rfl (cC [] (kD) ?_)
    | refine en ?_
    | exact ah|(refine ae fun hb=>?_;first|(exact absurd hb h0)|skip))
   refine ⟨(i+1,c),⟨by dsimp only;omega,hs⟩,by dsimp only;omega,?_⟩
   exact ap (qf [])
 ·rw [List.drop_eq_nil_of_le (by omega)] at hs
  obtain rfl:c=W:=hs
  repeat' (first
   | refine af ?_ ?_
   | refine en ?_
   | exact ah|refine ae fun hb=>?_
   | (refine aP (qf []) ?_;exact ab))
def yr (l:List Int):Cs:=yi ⟨0,(iR l).1.map ko,[]⟩ (iR l).2
theorem CS (l:List Int) (hl:l.length≤300) (hc:CatOk (iR l).1) {W:Cs} (hW:yr l=W):FSpec prog 8 [.one (.sl fk l)] [] [] (.v (W.a 2)) []:=by
 refine bJ func8 ?_
 unfold yr at hW
 obtain ⟨R,hR⟩:∃R,iR l=R:=⟨_,rfl⟩
 have kS:=Fd l hl hR
 rw [hR] at hc hW
 have kN:=LD 2 R.1 hc
 have kR:=LE _ _ hW
 repeat' (first
  | refine af ?_ ?_
  | (refine aa 9 rfl ?_;first
   | (refine cC [] (kS) ?_)
   | (refine cC [] (kN) ?_)
   | (refine cC [] (kR) ?_))
  | refine en ?_
  | exact ah|refine ae fun hb=>?_
  | (refine aP (qf []) ?_;exact ab))
theorem LF:nA.toList=[97]:=by rw [ByteArray.toList_eq];rfl
theorem J6:nB.toList=[98]:=by rw [ByteArray.toList_eq];rfl
theorem J7:nC.toList=[99]:=by rw [ByteArray.toList_eq];rfl
theorem J8:nD.toList=[100]:=by rw [ByteArray.toList_eq];rfl
theorem J9:nP.toList=[112]:=by rw [ByteArray.toList_eq];rfl
theorem LG:nQ.toList=[113]:=by rw [ByteArray.toList_eq];rfl
theorem pN {n:ByteArray} {k u h:Int} (hn:bE n.toList=true) (hs:be ⟨n,k,u,h⟩=true) (h0:0≤h) (h1:h<4):mI ⟨n,k,u,h⟩=true:=by
 unfold mI Rs.key
 rw [hs,decide_eq_true h0,decide_eq_true h1]
 simpa using hn
theorem Br (l:List Int):CatOk (iR l).1:=by
 show CatOk (qS ⟨l,0⟩).1
 generalize (⟨l,0⟩:Tp)=t
 have b1:=t.v_in (m:=4) (by omega)
 have b2:=t.s.v_in (m:=4) (by omega)
 have b3:=t.s.s.v_in (m:=4) (by omega)
 have b4:=t.s.s.s.v_in (m:=4) (by omega)
 have b5:=t.s.s.s.s.v_in (m:=8) (by omega)
 have b6:=t.s.s.s.s.s.v_in (m:=4) (by omega)
 have b7:=t.s.s.s.s.s.s.v_in (m:=3) (by omega)
 have b8:=t.s.s.s.s.s.s.s.v_in (m:=4) (by omega)
 unfold qS
 dsimp only
 generalize t.s.s.s.s.s.s.s.v 4=v8 at *
 generalize t.s.s.s.s.s.s.v 3=v7 at *
 generalize t.s.s.s.s.s.v 4=v6 at *
 generalize t.s.s.s.s.v 8=v5 at *
 generalize t.s.s.s.v 4=v4 at *
 generalize t.s.s.v 4=v3 at *
 generalize t.s.v 4=v2 at *
 generalize t.v 4=v1 at *
 have hp:∀n v,0≤v→v<8→∀h,be ⟨n,2,1+v,h⟩=true:=fun n v h1 h2 h=>by unfold be;simp;omega
 refine ⟨by simp,fun x hx=>?_,fun i hi=>?_⟩
 ·simp only [List.mem_cons,List.not_mem_nil,or_false] at hx
  rcases hx with rfl|rfl|rfl|rfl|rfl|rfl
  ·exact pN (by rw [LF];decide) rfl (by omega) (by omega)
  ·exact pN (by rw [J6];decide) rfl (by omega) (by omega)
  ·exact pN (by rw [J7];decide) rfl (by omega) (by omega)
  ·exact pN (by rw [J8];decide) rfl (by omega) (by omega)
  ·exact pN (by rw [J9];decide) (hp _ _ (by omega) (by omega) _) (by omega) (by omega)
  ·exact pN (by rw [LG];decide) (hp _ _ (by omega) (by omega) _) (by omega) (by omega)
 ·simp only [List.length_cons,List.length_nil] at hi
  unfold fD
  obtain rfl|rfl|rfl|rfl|rfl:i=0∨i=1∨i=2∨i=3∨i=4:=by omega
  ·show Op.bytesLess nA.toList nB.toList=true
   rw [LF,J6];decide
  ·show Op.bytesLess nB.toList nC.toList=true
   rw [J6,J7];decide
  ·show Op.bytesLess nC.toList nD.toList=true
   rw [J7,J8];decide
  ·show Op.bytesLess nD.toList nP.toList=true
   rw [J8,J9];decide
  ·show Op.bytesLess nP.toList nQ.toList=true
   rw [J9,LG];decide
theorem wj {r:Rs} (h:mI r=true):av (ko r)=true:=by
 have hs:be r=true:=by unfold mI at h;simp only [Bool.and_eq_true] at h;exact h.1.1.2
 unfold av gM ko
 simp only [h,Bool.true_and]
 have h1:tf r []=true:=by unfold tf;rw [hs];simp [mK,ii,ie,hs,dW]
 rw [h1]
 rfl
theorem Aa {l:List Rs} (h:CatOk l):eU (l.map ko)=true:=by
 have key:∀(m:List Rs) (o:Option ByteArray),(∀x∈m,mI x=true)→(∀i (h:i+1<m.length),fD (m[i]'(by omega)).name m[i+1].name=true)→(∀n,o=some n→∀x,m.head? = some x→fD n x.name=true)→ka o (m.map ko)=true:=by
  intro m
  induction m with
  | nil=>intro _ _ _ _;rfl
  | cons x m ih =>
   intro o h1 h2 h3
   rw [List.map_cons,dP,wj (h1 x (by simp))]
   have e:Kz o (ko x).res.name=true:=by
    cases o with
    | none=>rfl
    | some n=>exact h3 n rfl x rfl
   rw [e]
   refine ih _ (fun y hy=>h1 y (by simp [hy])) (fun i hi=>?_) fun n hn y hy=>?_
   ·have:=h2 (i+1) (by simpa using hi)
    simpa using this
   ·cases m with
    | nil=>cases hy
    | cons z m =>
     have:=h2 0 (by simp)
     simp only [List.head?_cons,Option.some.injEq] at hy
     subst hy
     injection hn with hn
     subst hn
     show fD x.name z.name=true
     simpa using this
 unfold eU
 rw [key l none h.ok h.asc (fun n hn=>by cases hn)]
 simp [h.len]
theorem uz:ce []=[]:=by
 apply List.eq_nil_iff_forall_not_mem.2
 intro x hx
 rw [cb] at hx
 cases hx
theorem CT (l:List Rs):gp (l.map ko)=[]:=by
 induction l with
 | nil=>rfl
 | cons x l ih=>show ce []++gp (l.map ko)=[];rw [ih,uz];rfl
theorem Ab {l:List Rs} (h:CatOk l):eO (l.map ko)=true∧aD (l.map ko)=[]:=by
 have e:aD (l.map ko)=[]:=by unfold aD;rw [CT,uz]
 refine ⟨?_,e⟩
 unfold eO
 rw [Aa h,e]
 rfl
theorem yt {l:List Rs} (h:CatOk l):gE ⟨0,l.map ko,[]⟩=true:=by
 obtain ⟨h1,h2⟩:=Ab h
 unfold gE
 dsimp only
 rw [h1,h2]
 rfl
theorem H8 {g:Lg} (h:n8 g=true) {s:Sv} (hs:s∈g.saves):(bi g s.label).entries.length=s.at_.toNat:=by
 have hl:=(eS.1 h)
 have h1:¬s.label=0:=by have:=(hl.svs.lab s hs).1.1;omega
 have h2:¬aE s.label 0 g.saves<0:=fun hn=>mT.1 hn s hs rfl
 obtain ⟨i,hi,e1,e2⟩:=gC (by omega:0≤aE s.label 0 g.saves)
 obtain ⟨j,hj,e3⟩:=List.getElem_of_mem hs
 have hij:i=j:=by
  have h3:=hl.svs.nd
  have h4:(g.saves.map (·.label))[i]'(by simpa using hi)=(g.saves.map (·.label))[j]'(by simpa using hj):=by simp [e2,e3]
  have h3:=List.pairwise_iff_getElem.1 h3
  rcases Nat.lt_trichotomy i j with hlt|he|hgt
  ·exact absurd h4 (h3 i j _ _ hlt)
  ·exact he
  ·exact absurd h4.symm (h3 j i _ _ hgt)
 subst hij
 have h5:=(hl.svs.lab s hs).2
 unfold bi
 rw [decide_eq_false h1,cond_false,e1]
 simp only [Nat.zero_add,Int.toNat_natCast,List.length_take]
 rw [List.getD_eq_getElem?_getD,List.getElem?_eq_getElem hi,Option.getD_some,e3]
 omega
theorem Ia {p:Pc} (h:n8 p.led=true) (hc:1≤p.cost):(qQ p).Pairwise fun a b=>a.cost≤b.cost:=by
 have hl:=(eS.1 h)
 have hle:∀s∈p.led.saves,(K9 p s).cost=p.cost*((p.led.entries.length:Int)-(s.at_.toNat:Int)+1):=fun s hs=>by
  show p.cost*((p.led.entries.length:Int)-((bi p.led s.label).entries.length:Int)+1)=_
  rw [H8 h hs]
 unfold qQ
 rw [List.pairwise_append]
 refine ⟨?_,by simp,fun a ha b hb=>?_⟩
 ·rw [List.pairwise_map,List.pairwise_reverse]
  refine hl.svs.ord.imp_of_mem fun {a b} ha hb hab=>?_
  rw [hle a ha,hle b hb]
  exact Int.mul_le_mul_of_nonneg_left (by omega) (by omega)
 ·rw [List.mem_singleton] at hb
  subst hb
  rw [List.mem_map] at ha
  obtain ⟨s,hs,rfl⟩:=ha
  rw [hle s (List.mem_reverse.1 hs)]
  show _≤p.cost*((p.led.entries.length:Int)-(0:Int)+1)
  exact Int.mul_le_mul_of_nonneg_left (by omega) (by omega)
theorem Fg (p:Pc):(∀x∈lC p,nk x=true)∧(lC p).Pairwise fun a b=>a.cost≤b.cost:=by
 unfold lC
 cases hh:fo p.proc && decide (1≤p.cost) && decide (p.cost≤1000) && n8 p.led && (!p.waiting || qo p.req) with
 | false=>exact ⟨by simp,by simp⟩
 | true =>
  have hq:=hh
  simp only [Bool.and_eq_true,decide_eq_true_eq] at hh
  show (∀x∈(bif (qQ p).all nk then qQ p else []),_)∧(bif (qQ p).all nk then qQ p else []).Pairwise _
  cases ha:(qQ p).all nk with
  | false=>exact ⟨by simp,by simp⟩
  | true=>exact ⟨List.all_eq_true.1 ha,Ia hh.1.2 hh.1.1.1.2⟩
theorem Ac (p:Pc):(lC p).length≤5:=by
 unfold lC
 cases hh:fo p.proc && decide (1≤p.cost) && decide (p.cost≤1000) && n8 p.led && (!p.waiting || qo p.req) with
 | false=>exact Nat.zero_le _
 | true =>
  simp only [Bool.and_eq_true] at hh
  have h4:=(gh hh.1.2).2
  show (bif (qQ p).all nk then qQ p else []).length≤5
  cases (qQ p).all nk with
  | false=>exact Nat.zero_le _
  | true =>
   show (qQ p).length≤5
   unfold qQ
   simp
   omega
theorem Ka {d d':Nat} (hd:d≤d') {w:World} {S:Nat→Prop} {x:Pc} {cs:List Value} (h:(sa d).rep w S x cs):(sa d').rep w S x cs:=by
 obtain ⟨A1,c1,A2,c2,A3,c3,e,h1,h2,h3,h4,h5,h6⟩:=h
 exact ⟨A1,c1,A2,c2,A3,c3,e,h1,h2,h3,h4,h5.map fun _ _ hx=>uY hd hx,h6⟩
theorem Cs.up {d d':Nat} (hd:d≤d') {w:World} {S:Nat→Prop} {ρ:Nat→Value} {c:Cs} {v:Value} (h:(c.a d).rep w S ρ v):(c.a d').rep w S ρ v:=by
 obtain ⟨cs,e,hA⟩:=h
 match cs,hA with
 | [_,_,_],⟨h1,h2,⟨A,cap,h3,h4,h5⟩,_⟩=>exact ⟨_,e,h1,h2,⟨A,cap,h3,h4,h5.map fun _ _ hx=>Ka hd hx⟩,trivial⟩
theorem FSpec.up {P:Program} {f:FuncId} {args:List V0} {res res':TV} (h:FSpec P f args [] [] res []) (hok:AO args [] [] res []=true) (hok':AO args [] [] res' []=true) (hle:∀w S ρ v,res.rep w S ρ v→res'.rep w S ρ v):FSpec P f args [] [] res' [] :=
 aA h.en hok' fun w S ρ vs hS ha=>(h.calls hok hS ha).mono fun _ _ ⟨v,e,hb,hr⟩=>⟨v,e,hb,hle _ _ _ _ hr⟩
theorem Fh (d:Nat) (hd:2≤d) (l:List Int) (hl:l.length≤300):FSpec prog 8 [.one (.sl fk l)] [] [] (.v ((yr l).a d)) [] :=
 (CS l hl (Br l) rfl).up rfl rfl fun _ _ _ _ h=>Cs.up hd h
theorem Fi (l:List Int):(yr l).procs.length≤8:=(fY.1 (vZ (iR l).2 _ (yt (Br l)))).1.len
class ARR (P:Program) (t:TypeId) (n:outParam Nat) (e:outParam TypeId) (m:outParam Nat) (zs:outParam (List Value)):Prop where
 u:P.underlying t=some (.array n e)
 s:(P.info? e).map (·.size)=some m
 z:∃i v,P.info? t=some i∧i.zero=some v∧v.cells=zs.toArray
def MF (m n i:Nat):Option (Nat×Nat):=some (i*m,m)
section
variable {P:Program} {o:Oper} {s:Mst}
theorem tB {t e:TypeId} {n m:Nat} {ps:Array (Nat×Operand)} {zs:List Value} {ds:List D} [I:ARR P t n e m zs] (ho:o.op = .build t ps) (hok:(cellsOf (dE s ps)).all (okD s.h)=true) (hd:mz (MF m n) (zs.map D.sc) (dE s ps)=some ds) :
  LOp P o s (fT (cellsOf (dE s ps))) ⟨.v (.ag ds),[],[]⟩ :=
 aZ fun c st ρ a w hr h1 h2=>by
  have he:∀x∈ps.toList,st.ev x.2=s.ev x.2:=fun x hx=>h1 x.2 (by rw [ho];simp only [Op.operands];simpa using ⟨x.1,by simpa using hx⟩)
  obtain ⟨p1,p2⟩:=rK hr he hok h2
  obtain ⟨us,hf,hA⟩:=nS (MF m n) (dE s ps) _ _ ds zs (pf hr he) (All2.scs zs) hd p1
  obtain ⟨i,v,z1,z2,z3⟩:=I.z
  obtain ⟨j,hj,hm⟩:∃j,P.info? e=some j∧j.size=m:=by
   have:=I.s
   cases h:P.info? e with
   | none=>simp [h] at this
   | some j=>exact ⟨j,rfl,by simpa [h] using this⟩
  subst hm
  refine ⟨.agg us.toArray,?_,⟨us,rfl,hA⟩,fun k hk=>?_⟩
  ·unfold execOp
   rw [ho]
   rw [show MF j.size n=fun i=>some (i*j.size,j.size) from rfl,Array.toList_map] at hf
   simp [Instr.build,zeroValue,typeInfo,z1,z2,run_underlying I.u,z3,sizeOf,hj,hf]
  ·obtain ⟨x,hx,hk⟩:=List.any_eq_true.1 (show ds.any (D.has k)=true from hk)
   rcases jf _ hd hx with h|h
   ·obtain ⟨v,_,rfl⟩:=List.mem_map.1 h
    cases hk
   ·exact p2 x h k hk
theorem tC {t e:TypeId} {x y:Operand} {n m k p i q:Nat} {kd:IntKind} {z:Int} {zs:List Value} [I:ARR P t n e m zs] (ho:o.op = .indexAddr t x y) (hx:s.ev x = .c (.ptr k p)) (hy:s.ev y = .c (.sc (.int kd z))) (hz:z=(i:Int)) (hi:i<n) (hq:p+i*m=q):LOp P o s [] ⟨.c (.ptr k q),[],[]⟩ :=
 aZ fun c st ρ a w hr h1 _=>by
  have he:=h1 x (by simp [ho,Op.operands])
  have he2:=h1 y (by simp [ho,Op.operands])
  rw [hx] at he
  rw [hy] at he2
  have hv:=hr.ev x
  rw [he] at hv
  have hv2:=hr.ev y
  rw [he2] at hv2
  obtain ⟨g,hg,hv⟩:=hv
  have hv2:a.eval y = .int kd z:=hv2
  obtain ⟨j,hj,hm⟩:∃j,P.info? e=some j∧j.size=m:=by
   have:=I.s
   cases h:P.info? e with
   | none=>simp [h] at this
   | some j=>exact ⟨j,rfl,by simpa [h] using this⟩
  subst hm hz hq
  refine ⟨.pointer (some ⟨g,p+i*j.size,none⟩),?_,⟨g,hg,rfl⟩,fun k' hk=>hr.nf (x:=x) he hk⟩
  unfold execOp
  rw [ho]
  simp [Instr.indexAt,asIntOf,run_underlying I.u,sizeOf,typeInfo,hj,hi,dQ,hv,hv2,Instr.sureAddr]
theorem tD {t e:TypeId} {x y:Operand} {n i:Nat} {kd:IntKind} {z:Int} {zs:List Value} {l:List D} {d:D} [I:ARR P t n e 1 zs] [J:TI P e false 1] (ho:o.op = .index t x y) (hx:s.ev x = .v (.ag l)) (hy:s.ev y = .c (.sc (.int kd z))) (hz:z=(i:Int)) (hi:i<n) (hd:l[i]? = some d):LOp P o s [] ⟨.c d,[],[]⟩ :=
 aZ fun c st ρ a w hr h1 _=>by
  have he:=h1 x (by simp [ho,Op.operands])
  have he2:=h1 y (by simp [ho,Op.operands])
  rw [hx] at he
  rw [hy] at he2
  have hv:=hr.ev x
  rw [he] at hv
  have hv2:=hr.ev y
  rw [he2] at hv2
  obtain ⟨cs,hv,hA⟩:=hv
  have hv2:a.eval y = .int kd z:=hv2
  obtain ⟨u,hu,hrep⟩:=hA.get hd
  obtain ⟨j,hj,hm⟩:∃j,P.info? e=some j∧j.size=1:=by
   have:=I.s
   cases h:P.info? e with
   | none=>simp [h] at this
   | some j=>exact ⟨j,rfl,by simpa [h] using this⟩
  obtain ⟨de,hu2,hd2⟩:=J.u
  subst hz
  refine ⟨u,?_,hrep,fun k' hk=>hr.nf (x:=x) he ?_⟩
  ·have hg:isAgg e=isAgg e:=rfl
   have hag:(isAgg e).run P w = .ok false w:=by
    unfold isAgg
    simp only [Sem.run_bind,run_underlying hu2,Result.andThen_ok]
    cases de <;> simp_all [Sem.run_pure]
   unfold execOp
   rw [ho]
   simp [Instr.index,asIntOf,run_underlying I.u,sizeOf,typeInfo,hj,hm,hi,hv,hv2,part,hag,hu]
  ·exact lh hd hk
theorem Fj {f:FuncId} {xs:Array Operand} {ks:List Nat} (ho:o.op = .makeFunc (.func f) #[] xs) (hx:xs.toList.map s.ev=ks.map fun k=>.c (.ptr k 0)):LOp P o s [] ⟨.c (.clo f ks),[],[]⟩ :=
 aZ fun c st ρ a w hr h1 _=>by
  have h1':xs.toList.map st.ev=ks.map fun k=>TV.c (.ptr k 0):=by
   rw [←hx]
   exact List.map_congr_left fun x hx=>h1 x (by simp [ho,Op.operands];simpa using hx)
  have key:∀(l:List Operand) (ks:List Nat),l.map st.ev=ks.map (fun k=>TV.c (.ptr k 0))→All2 (fun k u=>u=ρ k) ks (l.map a.eval)∧∀k,(∃j∈ks,j.beq k=true)→st.f k=false:=by
   intro l
   induction l with
   | nil=>intro ks h;cases ks with
    | nil=>exact ⟨trivial,fun k ⟨j,hj,_⟩=>by cases hj⟩
    | cons=>simp at h
   | cons x l ih =>
    intro ks h
    cases ks with
    | nil=>simp at h
    | cons k ks =>
     simp only [List.map_cons,List.cons.injEq] at h
     obtain ⟨i1,i2⟩:=ih ks h.2
     have hv:=hr.ev x
     rw [h.1] at hv
     obtain ⟨g,hg,hv⟩:=hv
     have hnf:st.f k=false:=hr.nf (x:=x) h.1 (by simp [TV.has,V0.has,D.has])
     refine ⟨⟨?_,i1⟩,fun k' ⟨j,hj,hb⟩=>?_⟩
     ·show a.eval x=ρ k
      rw [hv,hg]
     ·rcases List.mem_cons.1 hj with rfl|hj
      ·rw [←Nat.eq_of_beq_eq_true hb];exact hnf
      ·exact i2 k' ⟨j,hj,hb⟩
  obtain ⟨k1,k2⟩:=key _ _ h1'
  refine ⟨.func (.func f) #[] (xs.map a.eval),?_,⟨xs.toList.map a.eval,by congr 1;apply Array.toList_inj.1;simp,k1⟩,fun k hk=>k2 k ?_⟩
  ·unfold execOp
   rw [ho]
   simp [Instr.makeFunc]
  ·obtain ⟨j,hj,hb⟩:=List.any_eq_true.1 (show (D.clo f ks).has k=true from hk)
   exact ⟨j,hj,hb⟩
variable {n l:Nat}
theorem Ad {a:Act} {w:World} {K:Act→World→Prop} {Q:Exit→Act→World→Prop} (hd:∀c,o.op≠.defer c) (h:o.wp P a w K fun _ _ _=>False):o.wpIn (Fence.wide.inRound l) n P a w K Q:=by
 refine ⟨fun _ _=>trivial,?_⟩
 rw [show (Fence.wide.inRound l).round=some l from rfl,Oper.semAt_some l _ _ hd]
 unfold Oper.wp at h
 generalize (execOp a.eval o).run P w=r at *
 cases r with
 | ok nx w' =>
  cases nx with
  | value v=>exact h
  | skip=>exact h
  | defer d=>exact h
  | enter f args =>
   refine ⟨fun h=>(by cases h),CallsIn.inRound l (callsIn_wide.2 (Calls.mono h fun e w'' he=>?_))⟩
   cases e with
   | returned v=>exact he
   | panicked c=>exact he.elim
   | outgrown=>obtain ⟨_,_,hf⟩:=he;exact hf.elim
  | row r args=>exact ⟨fun h=>(by cases h),fun c cs _=>by obtain ⟨v,w'',r1,r2⟩:=h c cs;exact ⟨v,w'',r1,stepsIn_wide.2 r2⟩⟩
  | _=>exact h.elim
 | halt x w'=>cases x <;> simp only [Oper.upon] at h
theorem iD {ops:Array Oper} {Q:Exit→Act→World→Prop} (c:Ctx):∀(L:List Oper) (fps:List (List Nat×List Nat)) (s:Mst) (K:Mst→Prop),(∀o∈L,∀d,o.op≠.defer d)→fx c.nt L=true→DW P ops L fps s K→(∀s' ρ' a' w',K s'→Rp c s' ρ' a' w'→Q .normal a' w')→
  ∀(ρ:Nat→Value) (a:Act) (w:World),Rp c s ρ a w→wpListIn (Fence.wide.inRound l) n P ops Q L a w
 | [],_,s,K,_,_,h,hQ,ρ,a,w,hr=>hQ s ρ a w h hr
 | o :: L,fps,s,K,hno,hnt,h,hQ,ρ,a,w,hr=>by
  obtain ⟨R,W,fps',_,g,hg,h1,h2⟩:=h
  have hnt':fx c.nt L=true:=by simp [fx] at hnt ⊢;exact hnt.2
  refine wpListIn_step fun K' hK'=>?_
  rw [hr.gd hg]
  cases g with
  | true =>
   obtain ⟨e,⟨he,hkw,hu⟩,hn⟩:=h1 rfl
   rw [if_pos rfl]
   have h3:=he c s ρ a w hr (fun _ _=>rfl) (fun _ _=>rfl) hu (fun d hd=>o8 hnt (by simp) hd)
   refine Ad (hno o (by simp)) (Oper.wp_post h3 ?_)
   rintro a' w' ⟨ρ',hr'⟩
   exact hK' _ _ (iD c L fps' _ K (fun o ho=>hno o (by simp [ho])) hnt' hn hQ ρ' a' w' hr')
  | false =>
   rw [if_neg (by simp)]
   exact ⟨fun _ _=>trivial,hK' _ _ (iD c L fps' _ K (fun o ho=>hno o (by simp [ho])) hnt' (h2 rfl) hQ ρ _ w (hr.put_any o.dst))⟩
theorem oB {id nt:Nat} {L:List Oper} {K:Mst→Prop} {c:Ctx} {ρ:Nat→Value} {a:Act} {w:World} (hno:L.all (fun o=>match o.op with | .defer _=>false|_=>true)=true) (hnt:fx nt L=true) (hc:c.nt=nt) (h:DA P L.toArray false L [] s K) (hr:Rp c s ρ a w) :
  (Code.region id L.toArray false).wpIn (Fence.wide.inRound l) n P (fun e a' w'=>e = .normal∧∃s' ρ',K s'∧Rp c s' ρ' a' w') a w:=by
 obtain ⟨fps,h1,_⟩:=h
 refine wpIn_region_lit (iD c L fps s K (fun o ho d hd=>?_) (hc▸hnt) h1 (fun s' ρ' a' w' hk hr'=>⟨rfl,s',ρ',hk,hr'⟩) ρ a w hr)
 have:=List.all_eq_true.1 hno o ho
 rw [hd] at this
 cases this
def LH (U:List Nat) (ts:List (Nat×TV)) (hs:List (Nat×Box)):Bool:=ts.all (fun x=>x.2.in_ U) && hs.all (fun x=>x.2.in_ U) && Jg U (ar hs)
theorem Ae {U:List Nat} {ts:List (Nat×TV)} {hs:List (Nat×Box)} (hok:LH U ts hs=true):(cy U ts hs).Wf:=by
 simp only [LH,Bool.and_eq_true] at hok
 obtain ⟨⟨o1,o2⟩,o3⟩:=hok
 have hU:∀k,(!aG U k)=true→aG U k=false:=fun k h=>by simpa using h
 refine ⟨fun k hk=>?_,fun k t hk=>?_,fun k k' b hk hb=>?_⟩
 ·have hk:=hU k hk
  show il hs k=none
  cases h9:il hs k with
  | none=>rfl
  | some b=>rw [jc o3 (bS h9).1] at hk;cases hk
 ·have hk:=hU k hk
  show (pd ts t).has k=false
  have htg:∀(l:List (Nat×TV)) (n:Nat),(pd l n = .c .any)∨∃d,(n,d)∈l∧pd l n=d:=by
   intro l n
   induction l with
   | nil=>exact .inl rfl
   | cons x l ih =>
    obtain ⟨k,d⟩:=x
    simp only [pd]
    cases hk:k.beq n with
    | true=>rw [Nat.eq_of_beq_eq_true hk];exact .inr ⟨d,by simp,rfl⟩
    | false =>
     rcases ih with h|⟨d',h1,h2⟩
     ·exact .inl h
     ·exact .inr ⟨d',by simp [h1],h2⟩
  rcases htg ts t with h|⟨d,h1,h2⟩
  ·rw [h];rfl
  ·rw [h2]
   cases h9:d.has k with
   | false=>rfl
   | true=>rw [TV.in_has (List.all_eq_true.1 o1 (t,d) h1) h9] at hk;cases hk
 ·have hk:=hU k hk
  cases h9:b.has k with
  | false=>rfl
  | true=>rw [Box.in_has (List.all_eq_true.1 o2 (k',b) (bS hb).2) h9] at hk;cases hk
def IX (w:World) (F:Nat→Prop) (ρ:Nat→Value) (a:Act):List (Nat×TV)→Prop
 | []=>True
 | (t,d) :: r=>d.rep w F ρ (a.tmps.getD t undef)∧IX w F ρ a r
theorem mm {w:World} {F:Nat→Prop} {ρ:Nat→Value} {a:Act}:∀{ts:List (Nat×TV)},IX w F ρ a ts→∀t,(pd ts t).rep w F ρ (a.tmps.getD t undef)
 | [],_,_=>trivial
 | (k,d) :: r,h,t=>by
  simp only [pd]
  cases hk:k.beq t with
  | true=>rw [←Nat.eq_of_beq_eq_true hk];exact h.1
  | false=>exact mm h.2 t
end
end Go.Proofs.YtdaajdflefnjfaaGreat
