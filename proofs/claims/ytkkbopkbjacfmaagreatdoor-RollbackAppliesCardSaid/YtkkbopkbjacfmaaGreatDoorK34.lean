/- Part K34 of a proof of statements of chapter 15 (no condition). -/
import Derived.Test.YtkkbopkbjacfmaaGreatDoorK31
import Derived.Test.YtkkbopkbjacfmaaGreatDoorK24
set_option linter.unusedVariables false
set_option linter.unusedSimpArgs false
set_option maxRecDepth 100000
set_option maxHeartbeats 64000000
namespace Go.Proofs.YtkkbopkbjacfmaaGreatDoor
open Go.RowKit Go.Proofs.Tryz
def Pg (l:List Pc):Prop:=∀x∈l,(-1000000000000<=x.since/\x.since<=1000000000000)/\-1000000000000<=x.req.limit/\x.req.limit<=1000000000000
theorem C1 (now:Int) (k:Nat) (x:Pc) (l:List Pc) (b:Int×Int):jK now k (x :: l) b=jK now (k+1) l (bif x.waiting && !decide (x.req.limit=0) && decide (x.since+x.req.limit<=now) && (decide (b.1<0) || decide (x.since+x.req.limit<b.2)) then ((k:Int),x.since+x.req.limit) else b):=rfl
theorem A7 (d:Nat) (w:Wk) (h8:w.c.procs.length<=100000) (hx:Pg w.c.procs):FSpec prog 267 [ls] (HI d w) [3,4] (.i (d9 w)) (HO d w):=by
 refine aS func267 ?_;obtain ⟨E,hE⟩:=qGe (jK w.c.now 0 w.c.procs (-1,0));rw [show d9 w=E.1 from congrArg Prod.fst hE];refine ao ?_;refine ab (fun y:Nat×Int×Int=>y.1<=w.c.procs.length/\jK w.c.now y.1 (w.c.procs.drop y.1) y.2=E) (fun y=>bC [0,1,2] [(0,.v ls),(3,.i y.2.1),(4,.i y.2.2),(5,.i y.1)] [(0,.box 163 (GM w 1 2)),(1,.arr 121 (wS d) w.c.procs),(2,.arr 355 sR w.ev)]) (fun y=>w.c.procs.length-y.1) (0,-1,0) ⟨Nat.zero_le _,hE⟩ aL ?_;rintro ⟨i,b⟩ ⟨hi,hs⟩;dsimp only at *
 by_cases hlt:i<w.c.procs.length
 case neg =>
  obtain rfl:b=E:=by rw [<-hs,qDn (by omega)];rfl
  refine ao ?_
  (refine cn (qf [(3,1),(4,2)]) ?_;exact ak)
 obtain ⟨x,hxe⟩:=qGe (w.c.procs[i]);have hgx:w.c.procs[i]? = some x:=by rw [qGg hlt,hxe]
 obtain ⟨⟨k1,k2⟩,k3,k4⟩:=hx x (hxe▸List.getElem_mem hlt);rw [qDc hlt,hxe,C1] at hs;by_cases hc:(x.waiting && !decide (x.req.limit=0) && decide (x.since+x.req.limit<=w.c.now) && (decide (b.1<0) || decide (x.since+x.req.limit<b.2)))=true
 ·rw [hc,qCt] at hs;simp only [qBa,Bool.or_eq_true,Bool.not_eq_true',decide_eq_true_eq,decide_eq_false_iff_not] at hc;obtain ⟨⟨⟨c1,c2⟩,c3⟩,c4⟩:=hc;repeat' (first|refine az ?_ ?_|refine ay ?_|exact aA|refine ax fun hb=>?_)
  all_goals refine ⟨(i+1,(i:Int),x.since+x.req.limit),⟨by dsimp only;omega,hs⟩,by dsimp only;omega,?_⟩
  all_goals exact aL
 ·rw [Bool.eq_false_iff.2 hc,qCf] at hs;repeat' (first|refine az ?_ ?_|refine ay ?_|exact aA|refine ax fun hb=>?_)
  all_goals first|(exfalso;refine hc ?_;simp only [qBa,Bool.or_eq_true,Bool.not_eq_true',decide_eq_true_eq,decide_eq_false_iff_not];refine ⟨⟨⟨?_,?_⟩,?_⟩,?_⟩ <;> first|assumption|(left;assumption)|(right;assumption))|(refine ⟨(i+1,b),⟨by dsimp only;omega,hs⟩,by dsimp only;omega,?_⟩;exact aL)
theorem s7 (q:Qu) (x:Pc) (a:Tm) (l:List Tm):d7 q x (a :: l)=bif !aV a.name q.res.name || bc q.res (aw x.led.entries q.res.name) a.am then d7 q x l else
  bif !(ah q x.proc).isSome then decide (af q.holds x.proc=cl q.res (aw x.led.entries q.res.name) a.am) else
  bif q.waits.any (fun y=>decide (y.proc=x.proc) && !decide (y.prio=x.req.prio)) then false else
  decide (af q.holds x.proc=aw x.led.entries q.res.name) && decide (ah q x.proc=some (cl q.res (aw x.led.entries q.res.name) a.am)):=rfl
theorem Py (d:Nat) (q:Qu) (x:Pc) (L:List Tm):FSpec prog 238 [q.a,x.a d,.one (.sl da L)] [] [] (.b (d7 q x L)) []:=by
 refine aS func238 ?_;refine aP (fun c ρ a w hr=>ck (t:=2) hr rfl) (fun hl2=>?_);refine aP (fun c ρ a w hr=>cG (t:=0) (i:=6) hr rfl rfl) (fun hl0_6=>?_);obtain ⟨b,hB⟩:=qGe (d7 q x L);rw [hB];obtain ⟨l,hl⟩:=qGe (aw x.led.entries q.res.name);obtain ⟨h,hh⟩:=qGe (af q.holds x.proc);have kH:=eT q x.proc;have kL:=jk x.led.entries q.res.name;rw [hh] at kH;rw [hl] at kL;obtain ⟨o,hw⟩:=qGe (ah q x.proc);have kW:=ce q x.proc hw;obtain ⟨iw,hiw⟩:=qGe o.isSome;rw [hiw] at kW;cases iw with
 | false =>
  obtain rfl:o=none:=by cases o with
   | none=>rfl
   | some=>cases hiw
  refine ao ?_;refine ab (fun i=>i<=L.length/\d7 q x (L.drop i)=b) (fun i=>bC [3,4,7,8,9] [(2,.c (.sl da L)),(3,.c (.ptr 3 0)),(4,.c (.ptr 4 0)),(7,.c (.ptr 7 0)),(8,.c (.ptr 8 0)),(9,.c (.ptr 9 0)),(10,.b false),(11,.i i)] [(3,.box 78 q.d),(4,.box 121 (x.d d)),(7,.box 61 [.sc (.int .i64 l.mode),.sc (.int .i64 l.units)]),(8,.box 61 [.sc (.int .i64 h.mode),.sc (.int .i64 h.units)]),(9,.box 61 [.any,.any])]) (fun i=>L.length-i) 0 ⟨Nat.zero_le _,hB⟩ aL ?_;rintro i ⟨hi,hs⟩;by_cases hlt:i<L.length
  ·obtain ⟨a,ha⟩:=qGe (L[i]);have hga:L[i]? = some a:=by rw [qGg hlt,ha]
   rw [qDc hlt,ha,s7,hl,hh,hw] at hs;by_cases hnm:a.name.toList=q.res.name.toList
   ·rw [show aV a.name q.res.name=true by simp [aV,hnm]] at hs;cases hcv:bc q.res l a.am with
    | true =>
     rw [hcv] at hs;have:=dt q.res l a.am;exact Q7
    | false =>
     rw [hcv] at hs;simp at hs;rw [<-hs];have:=dt q.res l a.am;have:=Il q.res l a.am;exact QY
   ·rw [show aV a.name q.res.name=false by simp [aV,hnm]] at hs;have:=dt q.res l a.am;exact Q7
  ·rw [qDn (by omega),show d7 q x []=(decide (af q.holds x.proc=aw x.led.entries q.res.name) && !(ah q x.proc).isSome) from rfl,hh,hl,hw] at hs;simp at hs;rw [<-hs];repeat' (first|refine az ?_ ?_|refine ay ?_|exact aA|refine ax fun hb=>?_)
   all_goals (refine eR ?_;simp [*])
 | true =>
  obtain ⟨m,rfl⟩:∃m,o=some m:=by cases o with
   | none=>cases hiw
   | some m=>exact ⟨m,rfl⟩
  refine ao ?_;refine ab (fun i=>i<=L.length/\d7 q x (L.drop i)=b) (fun i=>bC [3,4,7,8,9] [(2,.c (.sl da L)),(3,.c (.ptr 3 0)),(4,.c (.ptr 4 0)),(7,.c (.ptr 7 0)),(8,.c (.ptr 8 0)),(9,.c (.ptr 9 0)),(10,.b true),(11,.i i)] [(3,.box 78 q.d),(4,.box 121 (x.d d)),(7,.box 61 [.sc (.int .i64 l.mode),.sc (.int .i64 l.units)]),(8,.box 61 [.sc (.int .i64 h.mode),.sc (.int .i64 h.units)]),(9,.box 61 [.sc (.int .i64 m.mode),.sc (.int .i64 m.units)])]) (fun i=>L.length-i) 0 ⟨Nat.zero_le _,hB⟩ aL ?_;rintro i ⟨hi,hs⟩;by_cases hlt:i<L.length
  case neg =>
   rw [qDn (by omega),show d7 q x []=(decide (af q.holds x.proc=aw x.led.entries q.res.name) && !(ah q x.proc).isSome) from rfl,hh,hl,hw] at hs;simp at hs;subst hs;repeat' (first|refine az ?_ ?_|refine ay ?_|exact aA|refine ax fun hb=>?_)
   all_goals (refine eR ?_;simp [*])
  obtain ⟨a,ha⟩:=qGe (L[i]);have hga:L[i]? = some a:=by rw [qGg hlt,ha]
  rw [qDc hlt,ha,s7,hl,hh,hw] at hs;by_cases hnm:a.name.toList=q.res.name.toList
  case neg =>
   rw [show aV a.name q.res.name=false by simp [aV,hnm]] at hs;have:=dt q.res l a.am;exact Q7
  rw [show aV a.name q.res.name=true by simp [aV,hnm]] at hs;cases hcv:bc q.res l a.am with
  | true =>
   rw [hcv] at hs;have:=dt q.res l a.am;exact Q7
  | false =>
   rw [hcv] at hs;obtain ⟨f,hf⟩:∃f:Wt->Bool,f=fun y=>decide (y.proc=x.proc) && !decide (y.prio=x.req.prio):=⟨_,rfl⟩;rw [<-hf] at hs;obtain ⟨j,hj⟩:=qGe (cl q.res l a.am);have kJ:=Il q.res l a.am;rw [hj] at hs kJ;simp only [Bool.not_true,Bool.or_self,qCf,Option.isSome_some] at hs;have:=dt q.res l a.am;refine ao ?_;refine ab (fun k=>k<=q.waits.length/\q.waits.any f=(q.waits.drop k).any f) (fun k=>bC [3,4,7,8,9,13] [(3,.c (.ptr 3 0)),(4,.c (.ptr 4 0)),(7,.c (.ptr 7 0)),(8,.c (.ptr 8 0)),(9,.c (.ptr 9 0)),(13,.c (.ptr 13 0)),(14,.i k)] [(3,.box 78 q.d),(4,.box 121 (x.d d)),(7,.box 61 [.sc (.int .i64 l.mode),.sc (.int .i64 l.units)]),(8,.box 61 [.sc (.int .i64 h.mode),.sc (.int .i64 h.units)]),(9,.box 61 [.sc (.int .i64 m.mode),.sc (.int .i64 m.units)]),(13,.box 61 [.sc (.int .i64 j.mode),.sc (.int .i64 j.units)])]) (fun k=>q.waits.length-k) 0 ⟨Nat.zero_le _,rfl⟩ aL ?_;rintro k ⟨hk,hany⟩;by_cases hkl:k<q.waits.length
   case neg =>
    rw [qDn (by omega),List.any_nil] at hany;rw [hany] at hs;rw [<-hs];repeat' (first|refine az ?_ ?_|refine ay ?_|exact aA|refine ax fun hb=>?_)
    all_goals (refine eR ?_;simp [*])
   obtain ⟨y,hy⟩:=qGe (q.waits[k]);have hgy:q.waits[k]? = some y:=by rw [qGg hkl,hy]
   rw [qDc hkl,hy,List.any_cons] at hany;by_cases hfy:y.proc=x.proc/\y.prio≠x.req.prio
   ·obtain ⟨hf1,hf2⟩:=hfy;rw [show f y=true by rw [hf];simp [hf1,hf2],Bool.true_or] at hany;rw [hany] at hs;rw [<-hs];refine ao ?_;all_goals (refine eR ?_;rfl)
   ·rw [show f y=false by rw [hf];simp;intro h1;exact Classical.byContradiction fun h2=>hfy ⟨h1,h2⟩,Bool.false_or] at hany;repeat' (first|refine az ?_ ?_|refine ay ?_|exact aA|(refine ax fun hb=>?_;first|(exact (hfy ⟨by assumption,hb⟩).elim)|skip))
    all_goals (refine ⟨k+1,⟨by omega,hany⟩,by omega,?_⟩;exact aL)
def MN (l:List UInt8) (limit over:Int):Int:=bif decide ((aQ l).2.2=0) && decide (limit<((aQ l).1:Int)) then over else (aQ l).2.2
def wF (all:List UInt8) (at_:Nat) (err limit over:Int):Int×Nat×Int:=bif !decide (err=0) then (0,at_,err) else bif !decide (MN (all.drop at_) limit over=0) then (0,at_,MN (all.drop at_) limit over) else (((aQ (all.drop at_)).1:Int),at_+(aQ (all.drop at_)).2.1,0)
def Ke (all:List UInt8) (at_:Nat) (err:Int):ByteArray×Nat×Int:=bif !decide (err=0) then (.empty,at_,err) else ((lx (all.drop at_)).1,at_+(lx (all.drop at_)).2.1,(lx (all.drop at_)).2.2)
theorem wx {all:List UInt8} {at_:Nat} {err limit over v e:Int} {k:Nat} (h:wF all at_ err limit over=(v,k,e)) (ha:at_<=all.length) (ho:over≠0):k<=all.length/\(err≠0->e≠0)/\(0<=limit->0<=v/\v<=limit):=by
 unfold wF at h;by_cases he:err=0
 ·rw [qDt he] at h;by_cases h1:MN (all.drop at_) limit over=0
  ·rw [qDt h1] at h;obtain ⟨rfl,rfl,rfl⟩:=gD h;have h2:(aQ (all.drop at_)).2.2=0/\¬limit<((aQ (all.drop at_)).1:Int):=by
    unfold MN at h1;by_cases h3:(aQ (all.drop at_)).2.2=0
    ·refine ⟨h3,fun h4=>?_⟩;rw [qDt h3,qDt h4] at h1;exact ho h1
    ·rw [qDf h3] at h1;exact absurd h1 h3
   have hb:=(cU (all.drop at_)).2.1 h2.1;rw [List.length_drop] at hb;exact ⟨by omega,fun h=>absurd he h,fun h0=>⟨by omega,by omega⟩⟩
  ·rw [qDf h1] at h;obtain ⟨rfl,rfl,rfl⟩:=gD h;exact ⟨ha,fun h=>absurd he h,fun h0=>⟨Int.le_refl _,h0⟩⟩
 ·rw [qDf he] at h;obtain ⟨rfl,rfl,rfl⟩:=gD h;exact ⟨ha,fun h=>h,fun h0=>⟨Int.le_refl _,h0⟩⟩
abbrev N9 (all:List UInt8) (at_:Nat) (err:Int):Box:=.box 208 [.sl cw all,.sc (.int .i64 (at_:Int)),.sc (.int .i64 err)]
theorem pW (all:List UInt8) (at_:Nat) (err limit over:Int) (hl:all.length<=1000000000) (ha:at_<=all.length) (h0:0<=limit) (h1:limit<=1073741824) (ho:over≠0) {v e:Int} {k:Nat} (hR:wF all at_ err limit over=(v,k,e)):FSpec prog 142 [.one (.ptr 0 0),.one (.sc (.int .i64 limit)),.one (.sc (.int .i64 over))] [(0,N9 all at_ err)] [] (.c (.sc (.int .i64 v))) [(0,some (N9 all k e))]:=by
 refine aS func142 ?_;unfold wF at hR;by_cases he:err=0
 case neg =>
  rw [qDf he] at hR;obtain ⟨rfl,rfl,rfl⟩:=gD hR;exact QY
 subst he;rw [qDt rfl] at hR;have hR:(bif !decide (MN (all.drop at_) limit over=0) then (0,at_,MN (all.drop at_) limit over) else (((aQ (all.drop at_)).1:Int),at_+(aQ (all.drop at_)).2.1,0))=(v,k,e):=hR;obtain ⟨D',hD'⟩:∃D',all.drop at_=D':=⟨_,rfl⟩;have hD2:all.drop ((at_:Int)).toNat=D':=by rw [Int.toNat_natCast];exact hD'
 have hDl:D'.length=all.length-at_:=by rw [<-hD'];simp
 rw [hD'] at hR;have KZ:=cU D';unfold MN at hR;obtain ⟨⟨n,m,x⟩,hu⟩:∃x,aQ D'=x:=⟨_,rfl⟩;have kU:=ML D' (by omega) hu;rw [hu] at hR KZ;dsimp only at hR KZ;obtain ⟨b1,b2,b3⟩:=KZ;have hw:IntKind.u64.wrap limit=limit:=IntWalk.u64_in _ (by omega);by_cases hx:x=0
 case neg =>
  rw [qDf hx] at hR;have hR:(bif !decide (x=0) then (0,at_,x) else ((n:Int),at_+m,0))=(v,k,e):=hR;rw [qDf hx] at hR;obtain ⟨rfl,rfl,rfl⟩:=gD hR;repeat' (first|refine az ?_ ?_|(refine aa 0 rfl ?_;refine sx (eu rfl underlying3 underlying204 rfl hw) ?_)|refine aa 9 rfl (cB [] kU ?_)|(refine aa 14 rfl ?_;refine sx (dl (z:=(at_:Int)) rfl rfl rfl rfl (by omega) (by omega) hD2) ?_)|refine ay ?_|exact aA|(refine ax fun hb=>?_;first|(exact absurd hb hx)|(exact absurd rfl hb)|skip)|exact aT|fail)
 subst hx;obtain ⟨c1,c2,c3⟩:=b2 rfl;by_cases hlt:limit<(n:Int)
 ·rw [qDt hlt] at hR;have hR:(bif !decide (over=0) then (0,at_,over) else ((n:Int),at_+m,0))=(v,k,e):=hR;rw [qDf ho] at hR;obtain ⟨rfl,rfl,rfl⟩:=gD hR;repeat' (first|refine az ?_ ?_|(refine aa 0 rfl ?_;refine sx (eu rfl underlying3 underlying204 rfl hw) ?_)|refine aa 9 rfl (cB [] kU ?_)|(refine aa 14 rfl ?_;refine sx (dl (z:=(at_:Int)) rfl rfl rfl rfl (by omega) (by omega) hD2) ?_)|refine ay ?_|exact aA|(refine ax fun hb=>?_;first|(exact absurd hb ho)|skip)|exact aT|fail)
 ·rw [qDf hlt] at hR;have hR:((n:Int),at_+m,(0:Int))=(v,k,e):=hR;obtain ⟨rfl,rfl,rfl⟩:=gD hR;have hcv:IntKind.i64.wrap (n:Int)=(n:Int):=IntWalk.i64_in _ (by omega);repeat' (first|refine az ?_ ?_|(refine aa 0 rfl ?_;first|refine sx (eu rfl underlying3 underlying204 rfl hw) ?_|refine sx (eu rfl underlying204 underlying3 rfl hcv) ?_)|refine aa 9 rfl (cB [] kU ?_)|(refine aa 14 rfl ?_;refine sx (dl (z:=(at_:Int)) rfl rfl rfl rfl (by omega) (by omega) hD2) ?_)|refine ay ?_|exact aA|refine ax fun hb=>?_|exact aT|fail)
theorem PT (all:List UInt8) (at_:Nat) (err:Int) (hl:all.length<=1000000000) (ha:at_<=all.length) {t:ByteArray} {e:Int} {k:Nat} (hR:Ke all at_ err=(t,k,e)) (hk:k<=all.length):FSpec prog 143 [.one (.ptr 0 0)] [(0,N9 all at_ err)] [] (.c (.sc (.string t))) [(0,some (N9 all k e))]:=by
 refine aS func143 ?_;unfold Ke at hR;by_cases he:err=0
 case neg =>
  rw [qDf he] at hR;obtain ⟨rfl,rfl,rfl⟩:=gD hR;exact QY
 subst he;rw [qDt rfl] at hR;obtain ⟨D',hD'⟩:∃D',all.drop at_=D':=⟨_,rfl⟩;have hD2:all.drop ((at_:Int)).toNat=D':=by rw [Int.toNat_natCast];exact hD'
 have hDl:D'.length=all.length-at_:=by rw [<-hD'];simp
 rw [hD'] at hR;obtain ⟨⟨n,m,x⟩,hu⟩:∃x,lx D'=x:=⟨_,rfl⟩;have kU:=PS D' (by omega) hu;rw [hu] at hR;have hR:(n,at_+m,x)=(t,k,e):=hR;obtain ⟨rfl,rfl,rfl⟩:=gD hR;repeat' (first|refine az ?_ ?_|refine aa 9 rfl (cB [] kU ?_)|(refine aa 14 rfl ?_;refine sx (dl (z:=(at_:Int)) rfl rfl rfl rfl (by omega) (by omega) hD2) ?_)|refine ay ?_|exact aA|refine ax fun hb=>?_|exact aT|fail)
theorem PU (all:List UInt8) (at_:Nat) (err:Int) (hl:all.length<=1000000000) (ha:at_<=all.length) {p:Pr} {e:Int} {m:Nat} (hR:dV (all.drop at_)=(p,m,e)) (hk:at_+m<=all.length):FSpec prog 141 [.one (.ptr 0 0)] [(0,N9 all at_ err)] [] (.v p.a) [(0,some (N9 all (at_+m) e))]:=by
 refine aS func141 ?_;obtain ⟨D',hD'⟩:∃D',all.drop at_=D':=⟨_,rfl⟩;have hD2:all.drop ((at_:Int)).toNat=D':=by rw [Int.toNat_natCast];exact hD'
 have hDl:D'.length=all.length-at_:=by rw [<-hD'];simp
 rw [hD'] at hR;have kP:=PQ D' (by omega) hR;repeat' (first|refine az ?_ ?_|refine aa 9 rfl (cB [] kP ?_)|(refine aa 14 rfl ?_;refine sx (dl (z:=(at_:Int)) rfl rfl rfl rfl (by omega) (by omega) hD2) ?_)|refine ay ?_|exact aA|refine ax fun hb=>?_|exact aT|fail)
def iW (all:List UInt8) (s:Nat×Int):Tm×Nat×Int :=
 let t:=Ke all s.1 s.2
 let m:=wF all t.2.1 t.2.2 1073741824 16
 let u:=wF all m.2.1 m.2.2 1073741824 16
 (⟨t.1,⟨m.1,u.1⟩⟩,u.2.1,u.2.2)
def wy (all:List UInt8):Nat->Nat×Int->List Tm->List Tm×Nat×Int
 | 0,s,acc=>(acc,s.1,s.2)
 | n+1,s,acc=>bif decide (s.2=0) then wy all n (iW all s).2 (acc++[(iW all s).1]) else (acc,s.1,s.2)
def Qw:Opn:=⟨⟨0,0,0⟩,0,0,[]⟩
def EP (o:Opn) (k:Nat) (e:Int):Opn×Nat×Int:=bif decide (e=0) && iT o then (o,k,0) else (Qw,0,bif decide (e=0) then 2 else e)
def BH (all:List UInt8):Opn×Nat×Int :=
 let p:=dV all
 let a:=wF all p.2.1 p.2.2 1073741824 16
 let c:=wF all a.2.1 a.2.2 1073741824 16
 let n:=wF all c.2.1 c.2.2 8 4
 let g:=wy all n.1.toNat n.2 []
 EP ⟨p.1,a.1-1,c.1,g.1⟩ g.2.1 g.2.2
def PV (o:Opn) (k:Nat) (e:Int):TV:=.tup [o.a,.one (.sc (.int .i64 (k:Int))),.one (.sc (.int .i64 e))]
theorem JD (l:List UInt8):(lx l).2.1<=l.length:=by
 unfold lx;by_cases h1:(aQ l).2.2=0
 ·rw [qDt h1];by_cases h2:1024<(aQ l).1
  ·rw [qDt h2];exact Nat.zero_le _
  ·rw [qDf h2];by_cases h3:l.length<(aQ l).2.1+(aQ l).1
   ·rw [qDt h3];exact Nat.zero_le _
   ·rw [qDf h3];show (aQ l).2.1+(aQ l).1<=_;omega
 ·rw [qDf h1];exact Nat.zero_le _
theorem Oa {all:List UInt8} {at_:Nat} {err:Int} (ha:at_<=all.length):(Ke all at_ err).2.1<=all.length:=by
 unfold Ke;cases decide (err=0) with
 | false=>exact ha
 | true =>
  have:=JD (all.drop at_);rw [List.length_drop] at this;show at_+(lx (all.drop at_)).2.1<=_;omega
theorem PW (all:List UInt8) (hl:all.length<=1000000000) (hp8:(dV all).2.1<=all.length) {o:Opn} {k:Nat} {e:Int} (hR:BH all=(o,k,e)):FSpec prog 63 [LQ all] [] [] (PV o k e) []:=by
 refine aS func63 ?_;unfold BH at hR;obtain ⟨⟨p,k0,e0⟩,hp⟩:∃x,dV all=x:=⟨_,rfl⟩;rw [hp] at hR hp8;dsimp only at hR hp8;have kP:=PU all 0 0 hl (Nat.zero_le _) hp (by omega);rw [Nat.zero_add] at kP;obtain ⟨⟨v1,k1,e1⟩,h1⟩:∃x,wF all k0 e0 1073741824 16=x:=⟨_,rfl⟩;have kA:=pW all k0 e0 1073741824 16 hl hp8 (by omega) (by omega) (by omega) h1;obtain ⟨a1,_,a2⟩:=wx h1 hp8 (by omega);rw [h1] at hR;dsimp only at hR;obtain ⟨⟨v2,k2,e2⟩,h2⟩:∃x,wF all k1 e1 1073741824 16=x:=⟨_,rfl⟩;have kB:=pW all k1 e1 1073741824 16 hl a1 (by omega) (by omega) (by omega) h2;obtain ⟨b1,_,b2⟩:=wx h2 a1 (by omega);rw [h2] at hR;dsimp only at hR;obtain ⟨⟨v3,k3,e3⟩,h3⟩:∃x,wF all k2 e2 8 4=x:=⟨_,rfl⟩;have kC:=pW all k2 e2 8 4 hl b1 (by omega) (by omega) (by omega) h3;obtain ⟨c1,_,c2⟩:=wx h3 b1 (by omega);rw [h3] at hR;dsimp only at hR;obtain ⟨n,rfl⟩:∃n:Nat,v3=n:=⟨v3.toNat,(Int.toNat_of_nonneg (c2 (by omega)).1).symm⟩;have hn8:n<=8:=by have:=(c2 (by omega)).2;omega
 have ha2:=a2 (by omega);rw [Int.toNat_natCast] at hR;obtain ⟨⟨G,K,E⟩,hG⟩:∃x,wy all n (k3,e3) []=x:=⟨_,rfl⟩;rw [hG] at hR;dsimp only at hR;clear hp h1 h2 h3 a2 b2 c2;repeat' (first|refine az ?_ ?_|(refine aa 9 rfl ?_;first|(refine cH (qf [(0,11)]) kP ?_)|(refine cH (qf [(0,11)]) kA ?_)|(refine cH (qf [(0,11)]) kB ?_)|(refine cH (qf [(0,11)]) kC ?_))|refine ay ?_|exact aA|refine ax fun hb=>?_)
 refine eG 6 5 1000 63 da rfl rfl rfl rfl ?_;refine ab (fun y:Nat×(Nat×Int)×List Tm=>y.2.1.1<=all.length/\y.2.2.length+y.1<=8/\wy all y.1 y.2.1 y.2.2=(G,K,E)) (fun y=>bC [2,6,11,1000] [(2,.c (.ptr 2 0)),(5,.c (.ptr 11 0)),(6,.c (.ptr 6 0)),(7,.i y.1)] [(2,.box 46 [.sc (.int .i64 0),.sc (.int .i64 0),.sc (.int .i64 0),.sc (.int .i64 0),.sc (.int .i64 0),.sc (.slice none 0 0)]),(6,.box 46 [.sc (.int .i64 p.site),.sc (.int .i64 p.inc),.sc (.int .i64 p.num),.sc (.int .i64 (v1-1)),.sc (.int .i64 v2),.own 1000]),(11,N9 all y.2.1.1 y.2.1.2),(1000,.arr 63 da y.2.2)]) (fun y=>y.1) (n,(k3,e3),[]) ⟨c1,by dsimp only;simp;omega,hG⟩ aL ?_;clear kP kA kB kC hG;rintro ⟨m,⟨at_,err⟩,acc⟩ ⟨hat,hm8,hs⟩;dsimp only at *
 by_cases hgo:m=0\/err≠0
 ·have hend:(acc,at_,err)=(G,K,E):=by
   rw [<-hs];cases m with
   | zero=>rfl
   | succ m =>
    have:err≠0:=hgo.resolve_left (by omega);show _=bif decide (err=0) then _ else _;rw [qDf this];rfl
  obtain ⟨rfl,rfl,rfl⟩:=gD hend;have hgo2:0<(m:Int)->err=0->False:=fun h1 h2=>by rcases hgo with h|h;omega;exact h h2
  unfold EP at hR;obtain ⟨b,hb0⟩:=qGe (iT ⟨p,v1-1,v2,acc⟩);have kV:=pR _ hb0;rw [hb0] at hR;clear hs hend hgo;by_cases he:err=0
  ·subst he;rw [qDt rfl] at hR;cases b with
   | true =>
    have hR:((⟨p,v1-1,v2,acc⟩:Opn),at_,(0:Int))=(o,k,e):=hR;obtain ⟨rfl,rfl,rfl⟩:=gD hR;exact Rr
   | false =>
    have hR:(Qw,0,(2:Int))=(o,k,e):=hR;obtain ⟨rfl,rfl,rfl⟩:=gD hR;exact Rr
  ·rw [qDf he] at hR;have hR:(Qw,0,err)=(o,k,e):=hR;obtain ⟨rfl,rfl,rfl⟩:=gD hR;repeat' (first|refine az ?_ ?_|refine aa 9 rfl (cB [1000] kV ?_)|refine ay ?_|exact aA|(refine ax fun hb=>?_;first|(exact absurd hb he)|(exact absurd (by assumption) he)|skip)|(refine fk (qf []) ?_;exact ak))
 ·obtain ⟨hm0,he0⟩:m≠0/\err=0:=⟨fun h=>hgo (.inl h),Classical.byContradiction fun h=>hgo (.inr h)⟩;subst he0;obtain ⟨j,rfl⟩:∃j,m=j+1:=⟨m-1,by omega⟩;have hs:wy all j (iW all (at_,0)).2 (acc++[(iW all (at_,0)).1])=(G,K,E):=hs;unfold iW at hs;have hk1:=Oa (err:=0) hat;obtain ⟨⟨t,q1,f1⟩,h1⟩:∃x,Ke all at_ 0=x:=⟨_,rfl⟩;rw [h1] at hk1;have kT:=PT all at_ 0 hl hat h1 hk1;dsimp only at hs;rw [h1] at hs;dsimp only at hs hk1;obtain ⟨⟨u1,q2,f2⟩,h2⟩:∃x,wF all q1 f1 1073741824 16=x:=⟨_,rfl⟩;have kM:=pW all q1 f1 1073741824 16 hl hk1 (by omega) (by omega) (by omega) h2;obtain ⟨hk2,_,_⟩:=wx h2 hk1 (by omega);rw [h2] at hs;dsimp only at hs;obtain ⟨⟨u2,q3,f3⟩,h3⟩:∃x,wF all q2 f2 1073741824 16=x:=⟨_,rfl⟩;have kU:=pW all q2 f2 1073741824 16 hl hk2 (by omega) (by omega) (by omega) h3;obtain ⟨hk3,_,_⟩:=wx h3 hk2 (by omega);rw [h3] at hs;dsimp only at hs;clear h1 h2 h3 hgo;repeat' (first|refine az ?_ ?_|(refine aa 8 rfl ?_;refine aK (ae rfl rfl (av rfl rfl) (aB [⟨t,⟨u1,u2⟩⟩] rfl rfl rfl rfl) rfl aE aE) rfl rfl rfl ?_)|(refine aa 9 rfl ?_;first|(refine cH (qf [(0,11)]) kT ?_)|(refine cH (qf [(0,11)]) kM ?_)|(refine cH (qf [(0,11)]) kU ?_))|refine ay ?_|exact aA|refine ax fun hb=>?_)
  refine ⟨(j,(q3,f3),acc++[⟨t,⟨u1,u2⟩⟩]),⟨hk3,by simp;omega,hs⟩,by dsimp only;omega,?_⟩;exact a8 (qf [(1000,50)])
theorem Ob {all:List UInt8} {at_ n m:Nat} {limit over:Int} (h:aQ (all.drop at_)=(n,m,0)) (hl:¬limit<(n:Int)):wF all at_ 0 limit over=((n:Int),at_+m,0):=by
 unfold wF MN;rw [h];dsimp only;rw [qDf hl];rfl
theorem pX {all D:List UInt8} {at_ n:Nat} {limit over:Int} (h:all.drop at_=bp n++D) (hn:n<2 ^ 64) (hl:¬limit<(n:Int)):wF all at_ 0 limit over=((n:Int),at_+(bp n).length,0)/\all.drop (at_+(bp n).length)=D:=by
 refine ⟨Ob (by rw [h];exact js hn D) hl,?_⟩;rw [<-List.drop_drop,h,List.drop_left]
theorem JE {l:List UInt8} {n q:Nat} (h:aQ l=(n,q,0)) (h1:¬1024<n) (h2:¬l.length<q+n):lx l=(Dm ((l.drop q).take n),q+n,0):=by
 unfold lx;rw [h];dsimp only;rw [qDf h1,qDf h2];rfl
theorem Oc {all:List UInt8} {at_:Nat} {t:ByteArray} {m:Nat} {e:Int} (h:lx (all.drop at_)=(t,m,e)):Ke all at_ 0=(t,at_+m,e):=by
 unfold Ke;rw [h];rfl
theorem BI (s:ByteArray):Dm s.data.toList=s:=rfl
theorem LU {all D:List UInt8} {at_:Nat} {s:ByteArray} (h:all.drop at_=bp s.size++(s.data.toList++D)) (hn:s.size<=1024):Ke all at_ 0=(s,at_+((bp s.size).length+s.size),0)/\all.drop (at_+((bp s.size).length+s.size))=D:=by
 have hl:s.data.toList.length=s.size:=rfl;have hu:aQ (all.drop at_)=(s.size,(bp s.size).length,0):=by rw [h];exact js (by omega) _
 have hd:(all.drop at_).drop (bp s.size).length=s.data.toList++D:=by rw [h,List.drop_left]
 refine ⟨Oc ?_,?_⟩
 ·rw [JE hu (by omega) (by rw [h];simp only [List.length_append];omega),hd,<-hl,List.take_left,BI]
 ·rw [<-List.drop_drop,<-List.drop_drop,hd,<-hl,List.drop_left]
theorem BJ {l:List UInt8} {p:Pr} {m:Nat} (h:dV l=(p,m,0)):∃a b c n1 n2 n3,aQ l=(a,n1,0)/\aQ (l.drop n1)=(b,n2,0)/\aQ (l.drop (n1+n2))=(c,n3,0)/\Cd a b c (n1+n2+n3)=(p,m,0)/\m=n1+n2+n3:=by
 obtain ⟨⟨a,n1,x1⟩,h1⟩:∃x,aQ l=x:=⟨_,rfl⟩;by_cases e1:x1=0
 case neg =>
  rw [Bz h1 e1] at h;obtain ⟨_,_,h⟩:=gD h;exact absurd h e1
 subst e1;obtain ⟨⟨b,n2,x2⟩,h2⟩:∃x,aQ (l.drop n1)=x:=⟨_,rfl⟩;by_cases e2:x2=0
 case neg =>
  rw [BA h1 h2 e2] at h;obtain ⟨_,_,h⟩:=gD h;exact absurd h e2
 subst e2;obtain ⟨⟨c,n3,x3⟩,h3⟩:∃x,aQ (l.drop (n1+n2))=x:=⟨_,rfl⟩;by_cases e3:x3=0
 case neg =>
  rw [BB h1 h2 h3 e3] at h;obtain ⟨_,_,h⟩:=gD h;exact absurd h e3
 subst e3;rw [BC h1 h2 h3] at h;refine ⟨a,b,c,n1,n2,n3,h1,h2,h3,h,?_⟩;unfold Cd at h;split at h
 ·obtain ⟨_,h,_⟩:=gD h;exact h.symm
 ·obtain ⟨_,_,h⟩:=gD h;exact absurd h (by decide)
theorem JF (l:List UInt8):(dV l).2.1<=l.length:=by
 obtain ⟨⟨p,m,e⟩,h⟩:∃x,dV l=x:=⟨_,rfl⟩;rw [h];show m<=l.length;by_cases he:e=0
 ·subst he;obtain ⟨a,b,c,n1,n2,n3,h1,h2,h3,h4,rfl⟩:=BJ h;have b1:=(cU l).2.1 (by rw [h1]);have b2:=(cU (l.drop n1)).2.1 (by rw [h2]);have b3:=(cU (l.drop (n1+n2))).2.1 (by rw [h3]);rw [h1] at b1;rw [h2,List.length_drop] at b2;rw [h3,List.length_drop] at b3;dsimp only at b1 b2 b3;omega
 ·unfold dV Cd at h;dsimp only at h;split at h
  ·obtain ⟨_,rfl,_⟩:=gD h;exact Nat.zero_le _
  ·split at h
   ·obtain ⟨_,rfl,_⟩:=gD h;exact Nat.zero_le _
   ·split at h
    ·obtain ⟨_,rfl,_⟩:=gD h;exact Nat.zero_le _
    ·split at h
     ·obtain ⟨_,_,h⟩:=gD h;exact absurd h.symm he
     ·obtain ⟨_,rfl,_⟩:=gD h;exact Nat.zero_le _
theorem Gx {all:List UInt8} {at_ q1 q2 q3:Nat} {t:ByteArray} {u1 u2 f1 f2 f3:Int} {e:Int} (h1:Ke all at_ e=(t,q1,f1)) (h2:wF all q1 f1 1073741824 16=(u1,q2,f2)) (h3:wF all q2 f2 1073741824 16=(u2,q3,f3)):iW all (at_,e)=(⟨t,⟨u1,u2⟩⟩,q3,f3):=by
 unfold iW;dsimp only;rw [h1];dsimp only;rw [h2];dsimp only;rw [h3]
theorem Gy {all:List UInt8} {n at_ q3:Nat} {x:Tm} {f3:Int} {acc:List Tm} (h:iW all (at_,0)=(x,q3,f3)):wy all (n+1) (at_,0) acc=wy all n (q3,f3) (acc++[x]):=by
 show (bif decide ((0:Int)=0) then wy all n (iW all (at_,0)).2 (acc++[(iW all (at_,0)).1]) else _)=_;rw [h];rfl
theorem Dn {all D:List UInt8} {at_:Nat} {a:Tm} (h:all.drop at_=LS a++D) (hn:a.name.size<=1024) (hm:0<=a.am.mode/\a.am.mode<=8) (hu:0<=a.am.units/\a.am.units<=8):iW all (at_,0)=(a,at_+(LS a).length,0)/\all.drop (at_+(LS a).length)=D:=by
 unfold LS at h;have hl:a.name.data.toList.length=a.name.size:=rfl;obtain ⟨r1,d1⟩:=LU (D:=bp a.am.mode.toNat++(bp a.am.units.toNat++D)) (by rw [h];simp only [List.append_assoc]) hn;obtain ⟨r2,d2⟩:=pX (limit:=1073741824) (over:=16) d1 (by omega) (by omega);obtain ⟨r3,d3⟩:=pX (limit:=1073741824) (over:=16) d2 (by omega) (by omega);have hL:at_+(LS a).length=at_+((bp a.name.size).length+a.name.size)+(bp a.am.mode.toNat).length+(bp a.am.units.toNat).length:=by
  unfold LS;simp only [List.length_append];omega
 refine ⟨?_,by rw [hL];exact d3⟩;rw [Gx r1 r2 r3,hL,Int.toNat_of_nonneg hm.1,Int.toNat_of_nonneg hu.1]
theorem BK {all D:List UInt8}:∀(l:List Tm) (at_:Nat) (acc:List Tm),all.drop at_=oG l++D->(∀a∈l,bU a.name.toList=true/\(a.am=⟨0,0⟩\/bj a.am=true))->wy all l.length (at_,0) acc=(acc++l,at_+(oG l).length,0)
 | [],at_,acc,_,_=>by
  show (acc,at_,(0:Int))=(acc++[],at_+0,0);rw [List.append_nil];rfl
 | a :: l,at_,acc,h,ha=>by
  obtain ⟨hn,hm⟩:=ha a (List.mem_cons_self ..);have hs:=ye hm;have hz:=wv hn;obtain ⟨r,d⟩:=Dn (a:=a) (D:=oG l++D) (by rw [h];show LS a++oG l++D=_;rw [List.append_assoc]) (by omega) ⟨hs.1,by omega⟩ ⟨hs.2.2.1,hs.2.2.2⟩;show wy all (l.length+1) (at_,0) acc=_;rw [Gy r,BK l _ _ d fun b hb=>ha b (List.mem_cons_of_mem _ hb)];show (acc++[a]++l,_,(0:Int))=(acc++a :: l,at_+(LS a++oG l).length,0);rw [List.append_assoc,List.length_append,Nat.add_assoc];rfl
theorem JG {all:List UInt8} {p:Pr} {v1 v2 v3 e0 e1 e2 e3:Int} {k0 k1 k2 k3:Nat} (h0:dV all=(p,k0,e0)) (h1:wF all k0 e0 1073741824 16=(v1,k1,e1)) (h2:wF all k1 e1 1073741824 16=(v2,k2,e2)) (h3:wF all k2 e2 8 4=(v3,k3,e3)) {G:List Tm} {K:Nat} {E:Int} (h4:wy all v3.toNat (k3,e3) []=(G,K,E)):BH all=EP ⟨p,v1-1,v2,G⟩ K E:=by
 unfold BH;rw [h0];dsimp only;rw [h1];dsimp only;rw [h2];dsimp only;rw [h3];dsimp only;rw [h4]
theorem BL {o:Opn} (hv:iT o=true) (raw:List UInt8):BH (BF o++raw)=(o,(BF o).length,0):=by
 obtain ⟨p1,p2,p3,p4,p5⟩:=yd hv;have hatm:=zw p5;obtain ⟨all,hall⟩:∃a,BF o++raw=a:=⟨_,rfl⟩;have hP:BF o=oN o.proc++(bp (o.label+1).toNat++(bp o.cost.toNat++(bp o.lower.length++oG o.lower))):=by
  unfold BF wK;rw [hv,qCt,if_pos p1];simp only [List.append_assoc]
 have e0:all=oN o.proc++(bp (o.label+1).toNat++(bp o.cost.toNat++(bp o.lower.length++(oG o.lower++raw)))):=by
  rw [<-hall,hP];simp only [List.append_assoc]
 have r0:dV all=(o.proc,(oN o.proc).length,0):=by rw [e0];exact E6 p1 _
 have d0:all.drop (oN o.proc).length=bp (o.label+1).toNat++(bp o.cost.toNat++(bp o.lower.length++(oG o.lower++raw))):=by rw [e0,List.drop_left]
 obtain ⟨r1,d1⟩:=pX (limit:=1073741824) (over:=16) d0 (by omega) (by omega);obtain ⟨r2,d2⟩:=pX (limit:=1073741824) (over:=16) d1 (by omega) (by omega);obtain ⟨r3,d3⟩:=pX (limit:=8) (over:=4) d2 (by omega) (by omega);have r4:=BK o.lower _ [] d3 hatm;rw [List.nil_append] at r4;rw [Int.toNat_of_nonneg (by omega)] at r1 r2;rw [hall,JG r0 r1 r2 r3 r4];have eo:(⟨o.proc,o.label+1-1,o.cost,o.lower⟩:Opn)=o:=by
  obtain ⟨a,b,c,d⟩:=o;simp only [Opn.mk.injEq,true_and,and_true];omega
 rw [eo,hP];unfold EP;rw [hv];show (o,_,(0:Int))=_;simp only [List.length_append,Nat.add_assoc]
end Go.Proofs.YtkkbopkbjacfmaaGreatDoor
