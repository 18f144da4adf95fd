/- Part K33 of a proof of statements of chapter 15 (no condition). -/
import Derived.Test.YthpgjkjgkhjjlaaGreatDoorK29
import Derived.Test.YthpgjkjgkhjjlaaGreatDoorK28
import Derived.HandedShaped
set_option linter.unusedVariables false
set_option linter.unusedSimpArgs false
set_option maxRecDepth 100000
set_option maxHeartbeats 64000000
namespace Go.Proofs.YthpgjkjgkhjjlaaGreatDoor
open Go.RowKit Go.Proofs.Tryz
section
variable {H:Type} {enc:TypeId×Value->H}
theorem gp {a:Assume} {C:Checked} {os:Os} {f:FuncId} {fn:Func} {s:ChangeSpec} {conds:List PathCond} {apart fresh handsOn again:Bool} {X:World->Array Value->Prop}
  (hX:∀(w w':World) (args:Array Value),w.heap=w'.heap->X w args->X w' args)
  (own:ownKnob C.prog.godebug=none) (started:os.Started) (noInit:C.prog.inits.idxOf? f=none) (hfn:C.prog.funcs[f]? = some fn)
  (witness:∃(w:World) (tape:Tape) (i:Input),w.os=os/\(w.forCall tape i).Shaped C.prog/\i.vars=[]/\Input.okWide C.prog (w.forCall tape i) .any w.heap.size f i/\
   ((s.pre enc C.prog fn conds apart (w.forCall tape i).memory i.args/\X (w.forCall tape i).memory i.args)/\sizedMet enc C.prog fn (OpenSpec.ofChange s) apart (w.forCall tape i).memory i.args)/\a.holds C.prog (lone (Frame.enter C.prog f i.args .normal) [] (w.forCall tape i)))
  (contract:∀(W:World) (base:Nat) (args:Array Value) (ds gs:List (DataW H)) (before:List MemPlace),
   (∀(j:Nat) t v,fn.params[j]? = some t->args[j]? = some v->Value.okWide C.prog W .any base t v)->
   DataW.Whole enc C.prog fn.params.toList s.vars apart W args.toList ds gs before->
   conds.all (PathCond.test C.prog ⟨fn.params.toList,ds,s.plain.varTypes C.prog,gs⟩)=true->
   (DataW.weightsEach C.prog (fn.params.toList++s.plain.varTypes C.prog) (ds++gs)).all (·<=reachBytes)=true->X W args->
   W.ShapedOpen C.prog->
   Calls C.prog f args W fun e W'=>∃v,e = .returned v/\s.post enc C.prog fn apart fresh handsOn again W args v W') :
  ReturnsInHanded a C os f .any (fun w args=>(s.pre enc C.prog fn conds apart w args/\X w args)/\sizedMet enc C.prog fn (OpenSpec.ofChange s) apart w args) (s.post enc C.prog fn apart fresh handsOn again):=by
 refine returnsInHanded_of_calls own started noInit witness ?_;intro w tape i _ hsh _ hok hpre _;obtain ⟨_,_,_,fn',hfn',_,_,_,_,hval⟩:=hok;have e:fn'=fn:=Option.some.inj (hfn'.symm.trans hfn);subst e;obtain ⟨⟨⟨ds,gs,before,hw,hc⟩,hx⟩,hz⟩:=hpre;have hw':=DataW.Whole.of_heap (w':=w.forCall tape i) (by rfl) hw;refine (contract (w.forCall tape i) w.heap.size i.args ds gs before hval hw' hc (hz.weights hw) (hX _ _ _ (by rfl) hx) hsh).mono fun e W' ⟨v,he,hp⟩=>?_;subst he;exact ChangeSpec.post_blind hp
end
theorem Cy {q:Qu} {p:Pr} (hS:ay q=true) (hh:fd q p=true):(aU q p).2.2=0/\(aU q p).1.res.name=q.res.name:=by
 have hs:=aP hS;have e:aU q p=iY (dB { q with holds:=cw q.holds p ⟨0,0⟩,convs:=cq q.convs p,waits:=cq q.waits p }):=by simp [aU,hS,hh]
 have:=(eV (hs.gone p)).2.2;rw [e];exact ⟨rfl,congrArg Rs.name this⟩
def Ul:List D:=[.sc (.string { data:=#[] }),.sc (.int .i64 0),.sc (.int .i64 0),.sc (.int .i64 0),.sc (.slice none 0 0),.sc (.slice none 0 0),.sc (.slice none 0 0),.sc (.int .i64 0)]
theorem OQ (t:List Qu) (hl:t.length<=8) (h8:∀q∈t,fU q):FSpec prog 213 [.one (.sl eh t),iV (-1),.ag Ul] [] [0] (.c (.own 0)) [(0,some (.arr 66 eh t))]:=by
 refine a7 func213 ?_;repeat' (first|refine av ?_ ?_|(refine aa 20 rfl ?_;refine sx (Cj (E:=eh) (n:=t.length) (z:=.agg #[.string { data:=#[] },.int .i64 0,.int .i64 0,.int .i64 0,.slice none 0 0,.slice none 0 0,.slice none 0 0,.int .i64 0]) jj rfl rfl rfl rfl (by omega) (by kernel_rfl) Ij (by decide)) ?_)|refine aq ?_|exact aw|refine ap fun hb=>?_)
 refine ab (fun i=>i<=t.length) (fun i=>bP [5,1000] [(1,.i (-1)),(5,.c (.ptr 5 0)),(7,.c (.own 1000)),(13,.c (.sl eh t)),(14,.i t.length),(15,.i i)] [(5,.box 66 Ul),(1000,.arr 66 eh (t.take i++List.replicate (t.length-i) jj))]) (fun i=>t.length-i) 0 (Nat.zero_le _) (by exact bo (qf [(1000,12)])) ?_;intro i hi;have hRl:(t.take i++List.replicate (t.length-i) jj).length=t.length:=by simp;omega
 by_cases hlt:i<t.length
 ·obtain ⟨x,hx⟩:=qGe (t[i]);have hgx:t[i]? = some x:=by rw [qGg hlt,hx]
  have hq:=h8 _ (List.getElem_mem hlt);rw [hx] at hq;obtain ⟨q1,q2,q3⟩:=hq;have hset:(t.take i++List.replicate (t.length-i) jj).set i x=t.take (i+1)++List.replicate (t.length-(i+1)) jj:=by
   exact Vj
  have hgi:(t.take i++List.replicate (t.length-i) jj)[i]? = some jj:=by
   exact VK
  obtain ⟨L,hL⟩:=qGe (t.take i++List.replicate (t.length-i) jj);rw [hL] at hRl hset hgi ⊢;clear h8 hL;repeat' (first|refine av ?_ ?_|((fail_if_success (first|refine m8 8 ?_|refine m9 8 ?_));refine aq ?_)|exact aw|refine ap fun hb=>?_)
  refine gU 22 rfl ?_;refine gU 26 rfl ?_;refine gU 30 rfl ?_;repeat' (first|refine av ?_ ?_|refine aq ?_|(refine aa 4 rfl ?_;refine a8 (ak (z:=x) rfl rfl rfl rfl hgi rfl rfl rfl rfl (qNl rfl) rfl rfl) rfl rfl rfl ?_)|exact aw|refine ap fun hb=>?_)
  refine ⟨i+1,by omega,by omega,?_⟩;rw [<-hset];exact aT
 ·have e:t.take i++List.replicate (t.length-i) jj=t:=by rw [List.take_of_length_le (by omega),show t.length-i=0 by omega];simp
  rw [e];clear h8;refine ao ?_
  (refine cc (qf [(0,1000)]) ?_;exact af)
theorem Mu (t:List Qu) (p:Pr) {R:List Qu×List Ev} (hR:bS t p=R):FSpec prog 145 [.one (.sl eh t),p.a] [] [] (.tup [.one (.sl eh R.1),.one (.sl fX R.2)]) []:=by
 refine a7 func145 ?_;cases hV:di t with
 | false =>
  obtain rfl:R=([],[]):=by rw [<-hR];simp [bS,hV]
  have:=xr t;refine ao ?_
  (refine fE (qf []) ?_;exact af)
 | true =>
  have hm:=(bi hV).1;have h8:∀q∈t,fU q:=fun q hq=>df (cP hV hq);have hR2:aM p t=R:=by rw [<-hR];simp [bS,hV]
  have kR:=OQ t (by omega) h8;clear h8;repeat' (first|refine av ?_ ?_|(refine aa 9 rfl ?_;first|(refine cB [] (xr t) ?_)|(refine cH (qf [(0,1001)]) kR ?_))|refine aq ?_|exact aw|(refine ap fun hb=>?_;first|(simp [hV] at hb;done)|skip))
  refine cj 7 1000 68 fX rfl rfl rfl ?_;refine ab (fun x:Nat×List Qu×List Ev=>x.1<=t.length/\x.2.1.length=x.1/\x.2.2.length<=18*x.1/\x.2.1++(aM p (t.drop x.1)).1=R.1/\x.2.2++(aM p (t.drop x.1)).2=R.2) (fun x=>bP [3,1000,1001] [(3,.c (.ptr 3 0)),(6,.c (.own 1001)),(7,.c (.own 1000)),(19,.c (.sl eh t)),(20,.i t.length),(21,.i x.1)] [lV 3 p,(1001,.arr 66 eh (x.2.1++t.drop x.1)),(1000,.arr 68 fX x.2.2)]) (fun x=>t.length-x.1) (0,[],[]) ⟨Nat.zero_le _,rfl,Nat.le_refl _,by rw [<-hR2];rfl,by rw [<-hR2];rfl⟩ aT ?_;rintro ⟨i,o,ev⟩ ⟨hi,hol,hel,hs1,hs2⟩;dsimp only at *
  have hlen:(o++t.drop i).length=t.length:=by simp;omega
  by_cases hlt:i<t.length
  ·obtain ⟨q,hq⟩:∃q,q=t[i]:=⟨_,rfl⟩;have hgt:t[i]? = some q:=by rw [qGg hlt,hq]
   have eS:(o++t.drop i)[i]? = some q:=by
    rw [List.getElem?_append_right (by omega),hol,Nat.sub_self,List.getElem?_drop];simp [hq,hlt]
   have hS:ay q=true:=cP hV (hq▸List.getElem_mem hlt);rw [qDc hlt,<-hq] at hs1 hs2;have e0:o++t.drop i=(o++[q])++t.drop (i+1):=by rw [qDc hlt,<-hq];simp
   obtain ⟨Q,hQ⟩:=qGe (aU q p);have kQ:=Mc q p hQ;cases hh:fd q p with
   | false =>
    rw [show aM p (q :: t.drop (i+1))=(q :: (aM p (t.drop (i+1))).1,(aM p (t.drop (i+1))).2) by simp [aM,hh]] at hs1 hs2;obtain rfl:bR 10=Q:=by rw [<-hQ];simp [aU,hS,hh]
    exact VB
   | true =>
    obtain ⟨hQ0,hQn⟩:=Cy hS hh;have hQl:=ng hS p;rw [hQ] at hQl hQ0 hQn;have hgl:(aJ q.res.name Q.2.1).length<=17:=by unfold aJ;rw [List.length_map];exact hQl
    have hset:(o++t.drop i).set i Q.1=(o++[Q.1])++t.drop (i+1):=by
     have e9:(t.drop i).set 0 Q.1=Q.1 :: t.drop (i+1):=by rw [qDc hlt];rfl
     rw [List.set_append_right _ _ (by omega),hol,Nat.sub_self,e9];simp
    obtain ⟨h,hhh⟩:=qGe (ah q.holds p);have kH:=fF q p;rw [hhh] at kH;obtain ⟨L,hL⟩:=qGe (o++t.drop i);rw [hL] at hlen eS hset ⊢;by_cases hz:h=⟨0,0⟩
    ·rw [show aM p (q :: t.drop (i+1))=(Q.1 :: (aM p (t.drop (i+1))).1,aJ q.res.name Q.2.1++(aM p (t.drop (i+1))).2) by simp [aM,hh,hQ,hhh,hz,hQn,aR]] at hs1 hs2;have kN:=(yK q.res.name Q.2.1 ev ⟨3,p,q.res.name,⟨0,0⟩⟩ (by omega) (by omega)).2.2;repeat' (first|refine av ?_ ?_|(refine aa 9 rfl ?_;first|(refine cC [] kQ ?_)|(refine cB [] kH ?_)|(refine cH (qf [(0,1000),(1,1002)]) kN ?_))|refine aq ?_|(refine aa 4 rfl ?_;refine a8 (ak (z:=Q.1) rfl rfl rfl rfl eS rfl rfl rfl rfl (qNl rfl) rfl rfl) rfl rfl rfl ?_)|exact aw|(refine ap fun hb=>?_;first|(exact absurd hQ0 hb)|(exact absurd hz hb)|skip))
     refine ⟨(i+1,o++[Q.1],ev++aJ q.res.name Q.2.1),⟨by dsimp only;omega,by simp;omega,by simp;omega,by dsimp only;rw [<-hs1];simp,by dsimp only;rw [<-hs2];simp⟩,by dsimp only;omega,?_⟩;dsimp only;rw [<-hset];exact bo (qf [(1000,1002)])
    ·rw [show aM p (q :: t.drop (i+1))=(Q.1 :: (aM p (t.drop (i+1))).1,[⟨3,p,q.res.name,⟨0,0⟩⟩]++aJ q.res.name Q.2.1++(aM p (t.drop (i+1))).2) by simp [aM,hh,hQ,hhh,hz,hQn,aR]] at hs1 hs2;have kN:=(yK q.res.name Q.2.1 (ev++[⟨3,p,q.res.name,⟨0,0⟩⟩]) ⟨3,p,q.res.name,⟨0,0⟩⟩ (by omega) (by simp;omega)).2.2;repeat' (first|refine av ?_ ?_|(refine aa 8 rfl ?_;refine be (ae rfl rfl (aH rfl rfl) (aN [⟨3,p,q.res.name,⟨0,0⟩⟩] rfl rfl rfl rfl) rfl aQ aQ) rfl rfl rfl ?_)|(refine aa 9 rfl ?_;first|(refine cC [] kQ ?_)|(refine cB [] kH ?_)|(refine cB [] (Mk p q.res.name ⟨0,0⟩) ?_)|(refine cH (qf [(0,48),(1,1002)]) kN ?_))|refine aq ?_|(refine aa 4 rfl ?_;refine a8 (ak (z:=Q.1) rfl rfl rfl rfl eS rfl rfl rfl rfl (qNl rfl) rfl rfl) rfl rfl rfl ?_)|exact aw|(refine ap fun hb=>?_;first|(exact absurd hQ0 hb)|(exact absurd hb hz)|skip))
     refine ⟨(i+1,o++[Q.1],ev++[⟨3,p,q.res.name,⟨0,0⟩⟩]++aJ q.res.name Q.2.1),⟨by dsimp only;omega,by simp;omega,by simp;omega,by dsimp only;rw [<-hs1];simp,by dsimp only;rw [<-hs2];simp⟩,by dsimp only;omega,?_⟩;dsimp only;rw [<-hset];exact bo (qf [(1000,1002)])
  ·have e:(o++t.drop i,ev)=R:=by
    rw [qDn (by omega)] at hs1 hs2 ⊢;simp [aM] at hs1 hs2;rw [hs2,List.append_nil,hs1]
   refine ao ?_;rw [<-e];exact VU
theorem mf {α:Type} {b:Bool} {k:Int} {x:List Qu×List Ev×Int} (h:x.2.2≠0->x.1=[]):(bif b then dE k else x).2.2≠0->(bif b then dE k else x).1=[]:=by
 cases b with
 | true=>exact fun _=>rfl
 | false=>exact h
theorem GC {t:List Qu} {p:Pr} {a:Tm}:(bD t p a).2.2≠0->(bD t p a).1=[] :=
 mf (α:=Unit) (mf (α:=Unit) (mf (α:=Unit) fun h=>absurd rfl h))
theorem GD {t:List Qu} {p:Pr} {a:Tm} {prio:Int}:(bt t p a prio).2.2≠0->(bt t p a prio).1=[] :=
 mf (α:=Unit) (mf (α:=Unit) (mf (α:=Unit) (mf (α:=Unit) fun h=>absurd rfl h)))
theorem CF (p:Pr) (n:ByteArray) (a:Tm) (prio:Int):(bv [] p n).1=[]/\(bD [] p a).1=[]/\(bt [] p a prio).1=[]:=by
 refine ⟨?_,?_,?_⟩
 ·unfold bv;cases di [] <;> rfl
 ·unfold bD;cases di [] <;> rfl
 ·unfold bt;cases di [] <;> rfl
theorem J4 {w:Wk} {p:Pr} {n:ByteArray} (h:w.c.queues=[]):(eT w p n).c.queues=[]:=by
 unfold eT fv;cases (aj (bf w.c.queues n) p).isSome with
 | true=>rw [h];exact (CF p n ⟨n,⟨0,0⟩⟩ 0).1
 | false=>exact h
theorem Bm {w:Wk} {p:Pr} {n:ByteArray} {l:Am} (h:w.c.queues=[]):(bZ w p n l).c.queues=[]:=by
 unfold bZ dI;cases decide (ah (bf w.c.queues n).holds p=l) with
 | true=>exact h
 | false=>rw [h];exact (CF p n ⟨n,l⟩ 0).2.1
theorem MA {w:Wk} {x:Pc} {n:ByteArray} (h:w.c.queues=[]):(bH w x n).c.queues=[]:=Bm (J4 h)
theorem Bn {x:Pc}:∀{l:List Tm} {w:Wk},w.c.queues=[]->(cS x l w).c.queues=[]
 | [],_,h=>h
 | a :: l,w,h=>Bn (l:=l) (w:=bH w x a.name) (MA h)
theorem yX {p:Pr}:∀{l:List Tm} {w:Wk},w.c.queues=[]->(bU p l w).c.queues=[]
 | [],_,h=>h
 | a :: l,w,h=>yX (l:=l) (w:=bZ w p a.name a.am) (Bm h)
theorem yY {p:Pr} {prio:Int}:∀{l:List Tm} {w:Wk},w.c.queues=[]->(cO p prio l w).c.queues=[]
 | [],_,h=>h
 | a :: l,w,h=>yY (l:=l) (w:=w.take (bt w.c.queues p a prio).1 (bt w.c.queues p a prio).2.1) (by show (bt w.c.queues p a prio).1=[];rw [h];exact (CF p a.name a prio).2.2)
theorem aI {P:Program} {o:Oper} {s:Mst} {x:Operand} {k m i off:Nat} (ho:o.op = .nilCheck x) (hx:s.ev x = .c (.optr k m i off)):LOp P o s [] ⟨.c (.optr k m i off),[],[]⟩ :=
 bY fun c st ρ a w hr h1 _=>by
  have he:=h1 x (by simp [ho,Op.operands]);rw [hx] at he;have hv:=hr.ev x;rw [he] at hv;obtain ⟨g,n,cap,hg,hv⟩:=hv;refine ⟨a.eval x,?_,⟨g,n,cap,hg,hv⟩,fun k' hk=>hr.nf (x:=x) he hk⟩;unfold execOp;rw [ho];simp [hv]
def Ix (w:Wk) (b:Nat):List D:=[.sc (.int .i64 w.c.now),.sl eh w.c.queues,.own 1,.own b]
def HP (d:Nat) (w:Wk):List (Nat×Box):=[(0,.box 109 (Ix w 2)),(1,.arr 82 (fR d) w.c.procs),(2,.arr 68 fX w.ev)]
def HQ (d:Nat) (w:Wk):List (Nat×Option Box):=[(0,some (.box 109 (Ix w 4))),(1,some (.arr 82 (fR d) w.c.procs)),(4,some (.arr 68 fX w.ev)),(2,none)]
abbrev pp (i:Nat):V0:=.one (.optr 1 16 i 0)
theorem Q1 (d:Nat) (w:Wk) (k:Int) (p:Pr) (hl:w.ev.length<=1000000):FSpec prog 132 [go,lw k,p.a] (HP d w) [4] (.tup []) (HQ d (w.note k p)):=by
 refine a7 func132 ?_;have h0:Nat.ble w.ev.length 1000000=true:=by simpa using hl
 repeat' (first|refine av ?_ ?_|(refine aa 8 rfl ?_;refine be (ae rfl rfl (aH rfl rfl) (aN [⟨k,p,⟨#[]⟩,⟨0,0⟩⟩] rfl rfl rfl rfl) rfl aQ aQ) rfl rfl rfl ?_)|refine aq ?_|exact aw|refine ap fun hb=>?_|(exact oW (qf [(4,15)])))
theorem Iy (d:Nat) (w:Wk) (t:List Qu) (ev:List Ev) (hl:w.ev.length+ev.length<=1000000):FSpec prog 139 [go,.one (.sl eh t),.one (.sl fX ev),lw 0] (HP d w) [4] (.tup []) (HQ d (w.take t ev)):=by
 refine a7 func139 ?_;refine ao ?_
 (exact oW (qf [(4,21)]))
theorem PQ (d:Nat) (l:List Pc) (i:Nat) {x:Pc} (hx:l[i]? = some x):FSpec prog 206 [.one (.optr 1 16 i 0)] [(1,.arr 82 (fR d) l)] [] (.tup []) [(1,some (.arr 82 (fR d) (l.set i { x with waiting:=false,req:=Rq.zero,since:=0 })))]:=by
 refine a7 func206 ?_;have hi:=(List.getElem?_eq_some_iff.1 hx).1;have hs1:=gz hi { x with waiting:=false };have hl1:(l.set i { x with waiting:=false }).length=l.length:=List.length_set;have hs2:=gz (hl1▸hi) { x with waiting:=false,req:=Rq.zero };have e:l.set i { x with waiting:=false,req:=Rq.zero,since:=0 } = ((l.set i { x with waiting:=false }).set i { x with waiting:=false,req:=Rq.zero }).set i { x with waiting:=false,req:=Rq.zero,since:=0 }:=by rw [List.set_set,List.set_set]
 rw [e];repeat' (first|refine av ?_ ?_|(refine aa 21 rfl ?_;refine sx (aI rfl rfl) ?_)|refine aq ?_|(refine aa 4 rfl ?_;first|(refine a8 (ak (z:={ x with waiting:=false }) rfl rfl rfl rfl hx rfl rfl rfl rfl (qNl rfl) rfl rfl) rfl rfl rfl ?_)|(refine a8 (lT (z:={ x with waiting:=false,req:=Rq.zero }) rfl rfl rfl rfl hs1 rfl rfl rfl rfl (qNl rfl) (by (repeat' (first|exact trivial|exact .same _|exact .nil|refine ⟨?_,?_⟩));first|done|fail) rfl) rfl rfl rfl ?_)|(refine a8 (ak (z:={ x with waiting:=false,req:=Rq.zero,since:=0 }) rfl rfl rfl rfl hs2 rfl rfl rfl rfl (qNl rfl) rfl rfl) rfl rfl rfl ?_))|exact aw|refine ap fun hb=>?_|(exact oW (qf [])))
theorem OV (d:Nat) (w:Wk) (p:Pr) (n:ByteArray) (l:Am) (hn:bd w.c.queues n=true) (hne:(bZ w p n l).c.queues≠[]) (hl:w.ev.length<=900000) {Z:Wk} (hZ:bZ w p n l=Z):FSpec prog 142 [go,p.a,(⟨n,l⟩:Tm).a] (HP d w) [4] (.tup []) (HQ d Z):=by
 refine a7 func142 ?_;obtain ⟨i,hi,hF,hq⟩:=no hn;obtain ⟨h,hh⟩:=qGe (ah w.c.queues[i].holds p);have kH:=fF w.c.queues[i] p;rw [hh] at kH;unfold bZ at hZ hne;rw [hq,hh] at hZ hne;by_cases hhl:h=l
 ·rw [qDt hhl] at hZ;obtain rfl:w=Z:=hZ;have:=jC w.c.queues n hF;refine ao ?_
  (exact oW (qf [(4,2)]))
 ·rw [qDf hhl,qCf] at hZ hne;have hll:=fH w.c.queues p ⟨n,l⟩;obtain ⟨R,hR⟩:=qGe (bD w.c.queues p ⟨n,l⟩);have h0:R.2.2=0:=Classical.byContradiction fun h=>hne (by show (bD w.c.queues p ⟨n,l⟩).1=[];exact GC (by rw [hR];exact h));unfold dI at hZ;rw [hR] at hZ hll;obtain ⟨R1,R2,R3⟩:=R;obtain rfl:R3=0:=h0;have kL:=OK w.c.queues p ⟨n,l⟩ hR;have kT:=Iy d w R1 R2 (by dsimp only at hll;omega);obtain rfl:w.take R1 R2=Z:=hZ;repeat' (first|refine av ?_ ?_|(refine aa 9 rfl ?_;first|(refine cB [] (jC w.c.queues n hF) ?_)|(refine cB [] kH ?_)|(refine cC [] kL ?_)|(refine cH (qf [(0,0),(1,1),(2,2),(4,1004)]) kT ?_))|refine aq ?_|exact aw|(refine ap fun hb=>?_;first|(exact absurd hb hhl)|skip)|(exact oW (qf [(4,1004)])))
theorem Pb (q:Qu) (h1:q.holds.length<=100000) (h2:q.convs.length<=100000) (h3:q.waits.length<=100000):FSpec prog 77 [q.a] [] [] (.v q.a) []:=by
 refine a7 func77 ?_;exact UG
theorem IT (d:Nat) (x:Pc) (h1:x.led.entries.length<=100000) (h2:x.led.saves.length<=100000) (h3:x.req.expr.cnt<=1000):FSpec prog 64 [x.a d] [] [] (.v (x.a d)) []:=by
 refine a7 func64 ?_;have kE:=IR x.req.expr d h3;exact UG
def Up (c:Cs):Prop:=c.queues.length<=100000/\c.procs.length<=100000/\(∀q∈c.queues,q.holds.length<=100000/\q.convs.length<=100000/\q.waits.length<=100000)/\∀x∈c.procs,x.led.entries.length<=100000/\x.led.saves.length<=100000/\x.req.expr.cnt<=1000
theorem Pd (d:Nat) (c:Cs) (h:Up c):FSpec prog 48 [.ag [.sc (.int .i64 c.now),.sl eh c.queues,.sl (fR d) c.procs]] [] [1] (.v (.ag [.sc (.int .i64 c.now),.sl eh c.queues,.own 1])) [(1,some (.arr 82 (fR d) c.procs))]:=by
 refine a7 func48 ?_;obtain ⟨now,Q,P⟩:=c;obtain ⟨h1,h2,h3,h4⟩:=h;dsimp only at *
 refine ao ?_;refine lU 3 1 1000 66 eh rfl rfl rfl rfl ?_;refine lU 3 2 1001 82 (fR d) rfl rfl rfl rfl ?_;refine ab (fun i=>i<=Q.length) (fun i=>bP [1,2,3,1000,1001] [(1,.c (.ptr 1 0)),(2,.c (.ptr 2 0)),(3,.c (.ptr 3 0)),(12,.c (.sl eh Q)),(13,.i Q.length),(14,.i i)] [(1,.box 32 [.sc (.int .i64 now),.sl eh Q,.sl (fR d) P]),(2,.box 32 [.sc (.int .i64 0),.sc (.slice none 0 0),.sc (.slice none 0 0)]),(3,.box 32 [.sc (.int .i64 now),.own 1000,.own 1001]),(1000,.arr 66 eh (Q.take i)),(1001,.arr 82 (fR d) [])]) (fun i=>Q.length-i) 0 (Nat.zero_le _) aT ?_;intro i hi;have hti:(Q.take i).length=i:=by simp;omega
 by_cases hlt:i<Q.length
 ·obtain ⟨q,hq⟩:=qGe (Q[i]);have hgq:Q[i]? = some q:=by rw [qGg hlt,hq]
  obtain ⟨j1,j2,j3⟩:=h3 q (hq▸List.getElem_mem hlt);have kQ:=Pb q j1 j2 j3;have e2:Q.take (i+1)=Q.take i++[q]:=by rw [List.take_succ_eq_append_getElem hlt,hq]
  clear h3 h4;repeat' (first|refine av ?_ ?_|(refine aa 8 rfl ?_;refine be (ae rfl rfl (aH rfl rfl) (aN [q] rfl rfl rfl rfl) rfl aQ aQ) rfl rfl rfl ?_)|refine aa 9 rfl (cC [] kQ ?_)|refine aq ?_|exact aw|refine ap fun hb=>?_)
  refine ⟨i+1,by omega,by omega,?_⟩;rw [e2];exact bo (qf [(1000,23)])
 have e2:Q.take i=Q:=List.take_of_length_le (by omega);rw [e2];clear h3 hti e2;refine ao ?_;refine ab (fun i=>i<=P.length) (fun i=>bP [1,2,3,1000,1001] [(1,.c (.ptr 1 0)),(2,.c (.ptr 2 0)),(3,.c (.ptr 3 0)),(27,.c (.sl (fR d) P)),(28,.i P.length),(29,.i i)] [(1,.box 32 [.sc (.int .i64 now),.sl eh Q,.sl (fR d) P]),(2,.box 32 [.sc (.int .i64 0),.sc (.slice none 0 0),.sc (.slice none 0 0)]),(3,.box 32 [.sc (.int .i64 now),.own 1000,.own 1001]),(1000,.arr 66 eh Q),(1001,.arr 82 (fR d) (P.take i))]) (fun i=>P.length-i) 0 (Nat.zero_le _) aT ?_;clear hi hlt;intro i hi;have hti:(P.take i).length=i:=by simp;omega
 by_cases hlt:i<P.length
 ·obtain ⟨x,hx⟩:=qGe (P[i]);have hgx:P[i]? = some x:=by rw [qGg hlt,hx]
  obtain ⟨j1,j2,j3⟩:=h4 x (hx▸List.getElem_mem hlt);have kP:=IT d x j1 j2 j3;have e2:P.take (i+1)=P.take i++[x]:=by rw [List.take_succ_eq_append_getElem hlt,hx]
  clear h4;repeat' (first|refine av ?_ ?_|(refine aa 8 rfl ?_;refine be (ae rfl rfl (aH rfl rfl) (aN [x] rfl rfl rfl rfl) rfl aQ aQ) rfl rfl rfl ?_)|refine aa 9 rfl (cC [] kP ?_)|refine aq ?_|exact aw|refine ap fun hb=>?_)
  refine ⟨i+1,by omega,by omega,?_⟩;rw [e2];exact bo (qf [(1001,38)])
 have e2:P.take i=P:=List.take_of_length_le (by omega);rw [e2];refine ao ?_
 (refine cc (qf [(1,1001)]) ?_;exact af)
end Go.Proofs.YthpgjkjgkhjjlaaGreatDoor
