/- Part 24 of 56 of the proof of both_hold (no condition). -/
import Derived.Test.YtcgpepnbohejfaaGreatDoorK23
import Derived.Test.YtcgpepnbohejfaaGreatDoorK21
set_option linter.unusedVariables false
set_option linter.unusedSimpArgs false
set_option maxRecDepth 100000
set_option maxHeartbeats 64000000
namespace Go.Proofs.YtcgpepnbohejfaaGreatDoor
open Go.RowKit Go.Proofs.Tryz
theorem aq {P:Program} {o:Oper} {s:Mst} {x:Operand} {k m i off:Nat} (ho:o.op = .nilCheck x) (hx:s.ev x = .c (.optr k m i off)):LOp P o s [] ⟨.c (.optr k m i off),[],[]⟩ :=
 bi fun c st ρ a w hr h1 _=>by
  have he:=h1 x (by simp [ho,Op.operands]);rw [hx] at he;have hv:=hr.ev x;rw [he] at hv;obtain ⟨g,n,cap,hg,hv⟩:=hv;refine ⟨a.eval x,?_,⟨g,n,cap,hg,hv⟩,fun k' hk=>hr.nf (x:=x) he hk⟩;unfold execOp;rw [ho];simp [hv]
def ze (w:Wk) (b:Nat):List D:=[.sc (.int .i64 w.c.now),.sl eX w.c.queues,.own 1,.own b]
def HP (d:Nat) (w:Wk):List (Nat×Box):=[(0,.box 91 (ze w 2)),(1,.arr 66 (fu d) w.c.procs),(2,.arr 79 iQ w.ev)]
def HQ (d:Nat) (w:Wk):List (Nat×Option Box):=[(0,some (.box 91 (ze w 4))),(1,some (.arr 66 (fu d) w.c.procs)),(4,some (.arr 79 iQ w.ev)),(2,none)]
abbrev pp (i:Nat):V0:=.one (.optr 1 16 i 0)
theorem GF (d:Nat) (w:Wk) (k:Int) (p:Pr) (hl:w.ev.length≤1000000):FSpec prog 77 [iS,uu k,p.a] (HP d w) [4] (.tup []) (HQ d (w.note k p)):=by
 refine aT func77 ?_;have h0:Nat.ble w.ev.length 1000000=true:=by simpa using hl
 repeat' (first|refine af ?_ ?_|(refine aa 8 rfl ?_;refine bh (ap rfl rfl (aH rfl rfl) (aL [⟨k,p,⟨#[]⟩,⟨0,0⟩⟩] rfl rfl rfl rfl) rfl aK aK) rfl rfl rfl ?_)|refine ae ?_|exact ah|refine ab fun hb=>?_|(exact sX (qf [(4,15)])))
theorem zf (d:Nat) (w:Wk) (t:List Qu) (ev:List Ev) (hl:w.ev.length+ev.length≤1000000):FSpec prog 84 [iS,.one (.sl eX t),.one (.sl iQ ev),uu 0] (HP d w) [4] (.tup []) (HQ d (w.take t ev)):=by
 refine aT func84 ?_;repeat' (first|refine af ?_ ?_|refine ae ?_|exact ah|(refine ab fun hb=>?_;first|(exact absurd rfl hb)|skip)|(exact sX (qf [(4,21)])))
theorem Fu (d:Nat) (l:List Pc) (i:Nat) {x:Pc} (hx:l[i]? = some x):FSpec prog 126 [.one (.optr 1 16 i 0)] [(1,.arr 66 (fu d) l)] [] (.tup []) [(1,some (.arr 66 (fu d) (l.set i { x with waiting:=false,req:=Rq.zero,since:=0 })))]:=by
 refine aT func126 ?_;have hi:=(List.getElem?_eq_some_iff.1 hx).1;have hs1:=gl hi { x with waiting:=false };have hl1:(l.set i { x with waiting:=false }).length=l.length:=List.length_set;have hs2:=gl (hl1▸hi) { x with waiting:=false,req:=Rq.zero };have e:l.set i { x with waiting:=false,req:=Rq.zero,since:=0 } = ((l.set i { x with waiting:=false }).set i { x with waiting:=false,req:=Rq.zero }).set i { x with waiting:=false,req:=Rq.zero,since:=0 }:=by rw [List.set_set,List.set_set]
 rw [e];repeat' (first|refine af ?_ ?_|(refine aa 21 rfl ?_;refine sx (aq rfl rfl) ?_)|refine ae ?_|(refine aa 4 rfl ?_;first|(refine bc (aA (z:={ x with waiting:=false }) rfl rfl rfl rfl hx rfl rfl rfl rfl (Nat.le_of_ble_eq_true rfl) rfl rfl) rfl rfl rfl ?_)|(refine bc (lL (z:={ x with waiting:=false,req:=Rq.zero }) rfl rfl rfl rfl hs1 rfl rfl rfl rfl (Nat.le_of_ble_eq_true rfl) (by (repeat' (first|exact trivial|exact .same _|exact .nil|refine ⟨?_,?_⟩));first|done|fail) rfl) rfl rfl rfl ?_)|(refine bc (aA (z:={ x with waiting:=false,req:=Rq.zero,since:=0 }) rfl rfl rfl rfl hs2 rfl rfl rfl rfl (Nat.le_of_ble_eq_true rfl) rfl rfl) rfl rfl rfl ?_))|exact ah|refine ab fun hb=>?_|(exact sX (qf [])))
theorem EY (d:Nat) (w:Wk) (p:Pr) (n:ByteArray) (l:Am) (hn:aS w.c.queues n=true) (hne:(bX w p n l).c.queues≠[]) (hl:w.ev.length≤900000) {Z:Wk} (hZ:bX w p n l=Z):FSpec prog 87 [iS,p.a,(⟨n,l⟩:Tm).a] (HP d w) [4] (.tup []) (HQ d Z):=by
 refine aT func87 ?_;obtain ⟨i,hi,hF,hq⟩:=uw hn;obtain ⟨h,hh⟩:∃h,ao w.c.queues[i].holds p=h:=⟨_,rfl⟩;have kH:=dK w.c.queues[i] p;rw [hh] at kH;unfold bX at hZ hne;rw [hq,hh] at hZ hne;by_cases hhl:h=l
 ·rw [decide_eq_true hhl] at hZ;obtain rfl:w=Z:=hZ;repeat' (first|refine af ?_ ?_|(refine aa 9 rfl ?_;first|(refine cB [] (gj w.c.queues n hF) ?_)|(refine cB [] (kH) ?_))|refine ae ?_|exact ah|(refine ab fun hb=>?_;first|(exact absurd hhl hb)|skip)|(exact sX (qf [(4,2)])))
 ·rw [decide_eq_false hhl,cond_false] at hZ hne;have hll:=pL w.c.queues p ⟨n,l⟩;obtain ⟨R,hR⟩:∃R,cg w.c.queues p ⟨n,l⟩=R:=⟨_,rfl⟩;have h0:R.2.2=0:=Classical.byContradiction fun h=>hne (by show (cg w.c.queues p ⟨n,l⟩).1=[];exact xW (by rw [hR];exact h));unfold eJ at hZ;rw [hR] at hZ hll;obtain ⟨R1,R2,R3⟩:=R;obtain rfl:R3=0:=h0;have kL:=EI w.c.queues p ⟨n,l⟩ hR;have kT:=zf d w R1 R2 (by dsimp only at hll;omega);obtain rfl:w.take R1 R2=Z:=hZ;repeat' (first|refine af ?_ ?_|(refine aa 9 rfl ?_;first|(refine cB [] (gj w.c.queues n hF) ?_)|(refine cB [] (kH) ?_)|(refine cC [] (kL) ?_)|(refine cH (qf [(0,0),(1,1),(2,2),(4,1004)]) (kT) ?_))|refine ae ?_|exact ah|(refine ab fun hb=>?_;first|(exact absurd hb hhl)|skip)|(exact sX (qf [(4,1004)])))
theorem Dd (d:Nat) (w:Wk) (i:Nat) {x:Pc} (n:ByteArray) (hx:w.c.procs[i]? = some x) (hV:dl w.c.queues=true) (hn:aS w.c.queues n=true) (hne:(bq w x n).c.queues≠[]) (hl:w.ev.length≤800000) {Z:Wk} (hZ:bq w x n=Z):FSpec prog 125 [iS,pp i,.one (.sc (.string n))] (HP d w) [4] (.tup []) (HQ d Z):=by
 refine aT func125 ?_;obtain ⟨j,hj,hF,hq⟩:=uw hn;have hsh:=cR (cj hV (List.getElem_mem hj));obtain ⟨l,hL⟩:∃l,ay x.led.entries n=l:=⟨_,rfl⟩;have kL:=C9 x.led n hL;obtain ⟨o,hw⟩:∃o,ai w.c.queues[j] x.proc=o:=⟨_,rfl⟩;have kW:=dL w.c.queues[j] x.proc hsh.2.1 hsh.2.2 hw;unfold bq at hZ hne;rw [hL] at hZ hne;cases o with
 | none =>
  rw [Option.isSome_none] at kW;rw [show eK w x.proc n=w by unfold eK;rw [hq,hw];rfl] at hZ hne;have kB:=EY d w x.proc n l hn hne (by omega) hZ;repeat' (first|refine af ?_ ?_|(refine aa 9 rfl ?_;first|(refine cB [] (gj w.c.queues n hF) ?_)|(refine cB [] (kW) ?_)|(refine cB [] (kL) ?_)|(refine cH (qf [(0,0),(1,1),(2,2),(4,1004)]) (kB) ?_))|(refine aa 21 rfl ?_;refine sx (aq rfl rfl) ?_)|refine ae ?_|exact ah|(refine ab fun hb=>?_;first|(omega)|skip)|(exact sX (qf [(4,1004)])))
 | some m =>
  rw [Option.isSome_some] at kW;have hcl:=nI w.c.queues x.proc n;obtain ⟨ec,hst,_⟩:=pH (p:=x.proc) hV hn (by rw [hq,hw];rfl);have h0:(bz w.c.queues x.proc n).2.2=0:=by rw [ec]
  rw [show eK w x.proc n=gu w x.proc n by unfold eK;rw [hq,hw];rfl] at hZ hne;unfold gu at hZ hne;have hn2:aS (w.take (bz w.c.queues x.proc n).1 (bz w.c.queues x.proc n).2.1).c.queues n=true:=by
   show aS (bz w.c.queues x.proc n).1 n=true;rw [hst.hasE];exact hn
  have hev:(w.take (bz w.c.queues x.proc n).1 (bz w.c.queues x.proc n).2.1).ev.length≤900000:=by rw [l9];omega
  have kB:=EY d _ x.proc n l hn2 hne hev hZ;obtain ⟨C,hC⟩:∃C,bz w.c.queues x.proc n=C:=⟨_,rfl⟩;have kC:=Cx w.c.queues x.proc n hC;rw [hC] at h0 hcl kB;obtain ⟨C1,C2,C3⟩:=C;obtain rfl:C3=0:=h0;have kT:=zf d w C1 C2 (by dsimp only at hcl;omega);obtain ⟨w1,hw1⟩:∃w1,w.take C1 C2=w1:=⟨_,rfl⟩;have hp1:w1.c.procs=w.c.procs:=by rw [←hw1];rfl
  rw [show (w.take (C1,C2,(0:Int)).1 (C1,C2,(0:Int)).2.1)=w1 from hw1] at kB;rw [hw1] at kT;have hx1:w1.c.procs[i]? = some x:=by rw [hp1];exact hx
  clear hne hZ hst ec hn2 hev hC hw1 hp1;repeat' (first|refine af ?_ ?_|(refine aa 9 rfl ?_;first|(refine cB [] (gj w.c.queues n hF) ?_)|(refine cB [] (kW) ?_)|(refine cB [] (kL) ?_)|(refine cC [] (kC) ?_)|(refine cH (qf [(0,0),(1,1),(2,2),(4,1004)]) (kT) ?_)|(refine cH (qf [(0,0),(1,1),(2,1004),(4,1006)]) (kB) ?_))|(refine aa 21 rfl ?_;refine sx (aq rfl rfl) ?_)|refine ae ?_|exact ah|(refine ab fun hb=>?_;first|(omega)|skip)|(exact sX (qf [(4,1006)])))
def Jl (x:Pc) (l:List Tm) (w:Wk):Prop:=GE x l w∧(cO x l w).c.queues≠[]∧w.ev.length+35*l.length≤800000
theorem mV (d:Nat) (w:Wk) (i:Nat) {x:Pc} (hx:w.c.procs[i]? = some x) (hok:cJ x.req.expr=[]∨Jl x (cJ x.req.expr) w) {Z:Wk} (hZ:az w i=Z):FSpec prog 78 [iS,pp i] (HP d w) [4] (.tup []) (HQ d Z):=by
 refine aT func78 ?_;have hi:=(List.getElem?_eq_some_iff.1 hx).1;have hpc:=fI hx;have hW:az w i=gg (cO x (cJ x.req.expr) w) i:=by unfold az;rw [hpc]
 rw [hW] at hZ;have h8:=dQ x.req.expr;obtain ⟨L,hL⟩:∃L,cJ x.req.expr=L:=⟨_,rfl⟩;have kA:=iC d x.req.expr hL;rw [hL] at hZ h8 hok;obtain ⟨F,hF⟩:∃F,cO x L w=F:=⟨_,rfl⟩;have hFp:F.c.procs=w.c.procs:=by rw [←hF];exact eO x L w
 have hFx:F.c.procs[i]? = some x:=by rw [hFp];exact hx
 rw [hF] at hZ;have kR:=Fu d F.c.procs i hFx;obtain rfl:F.setP i { x with waiting:=false,req:=Rq.zero,since:=0 } = Z:=by rw [←hZ];unfold gg;rw [fI hFx]
 clear hZ hW;repeat' (first|refine af ?_ ?_|refine aa 9 rfl (cC [] (kA) ?_)|(refine aa 21 rfl ?_;refine sx (aq rfl rfl) ?_)|refine ae ?_|exact ah|refine ab fun hb=>?_)
 refine ak (fun y:Nat×Wk=>y.1≤L.length∧cO x (L.drop y.1) y.2=F∧y.2.c.procs[i]? = some x∧(L.drop y.1=[]∨Jl x (L.drop y.1) y.2)) (fun y=>cq [0,1,2,1011] [(0,.v iS),(1,.v (pp i)),(11,.c (.sl c7 L)),(12,.i L.length),(13,.i y.1)] [(0,.box 91 (ze y.2 1011)),(1,.arr 66 (fu d) y.2.c.procs),(1011,.arr 79 iQ y.2.ev)]) (fun y=>L.length-y.1) (0,w) ⟨Nat.zero_le _,hF,hx,hok⟩ (by exact bw (qf [(1011,2)])) ?_;rintro ⟨k,u⟩ ⟨hk,hu,hux,huo⟩;dsimp only at *
 by_cases hlt:k<L.length
 ·rw [List.drop_eq_getElem_cons hlt] at hu huo;obtain ⟨⟨u1,u2,u3,u4⟩,u5,u6⟩:=huo.resolve_left (List.cons_ne_nil _ _);obtain ⟨a,ha⟩:∃a,L[k]=a:=⟨_,rfl⟩;have hga:L[k]? = some a:=by rw [List.getElem?_eq_getElem hlt,ha]
  rw [ha] at hu u2 u4 u5;have hne:(bq u x a.name).c.queues≠[]:=fun h=>u5 (toZ (l:=L.drop (k+1)) (w:=bq u x a.name) h);have hev:=js u x a.name;rw [List.length_cons] at u6;obtain ⟨z,hz⟩:∃z,bq u x a.name=z:=⟨_,rfl⟩;have kL:=Dd d u i a.name hux u1 u2 hne (by omega) hz;have hzp:z.c.procs=u.c.procs:=by rw [←hz];exact jq u x a.name
  have hu:cO x (L.drop (k+1)) z=F:=by rw [←hz];exact hu
  rw [hz] at u4 hev;have u5:(cO x (L.drop (k+1)) z).c.queues≠[]:=by rw [←hz];exact u5
  clear hne hok hF hz;repeat' (first|refine af ?_ ?_|refine aa 9 rfl (cH (qf [(0,0),(1,1),(2,1011),(4,1020)]) (kL) ?_)|refine ae ?_|exact ah|refine ab fun hb=>?_)
  refine ⟨(k+1,z),⟨by dsimp only;omega,hu,by dsimp only;rw [hzp];exact hux,.inr ⟨u4,u5,by dsimp only;omega⟩⟩,by dsimp only;omega,?_⟩;dsimp only;exact bw (qf [(1011,1020)])
 ·rw [List.drop_eq_nil_of_le (by omega)] at hu;obtain rfl:u=F:=hu;repeat' (first|refine af ?_ ?_|refine aa 9 rfl (cH (qf [(1,1)]) (kR) ?_)|refine ae ?_|exact ah|refine ab fun hb=>?_|(exact sX (qf [(4,1011)])))
theorem E0 (d:Nat) (w:Wk) (i:Nat) {x:Pc} (n:ByteArray) (hx:w.c.procs[i]? = some x) (hn:aS w.c.queues n=true) (hr:ao (a6 w.c.queues n).holds x.proc=ay x.led.entries n∨(eG x.led ⟨n,ay x.led.entries n,ao (a6 w.c.queues n).holds x.proc⟩).2=0) (hl:w.ev.length≤900000) {Z:Wk} (hZ:gW w i x.proc n=Z):FSpec prog 167 [iS,pp i,.one (.sc (.string n))] (HP d w) [4] (.tup []) (HQ d Z):=by
 refine aT func167 ?_;obtain ⟨j,hj,hF,hq⟩:=uw hn;have hpc:=fI hx;unfold gW at hZ;rw [hpc] at hZ;rw [hq] at hZ hr;obtain ⟨l,hL⟩:∃l,ay x.led.entries n=l:=⟨_,rfl⟩;have kL:=C9 x.led n hL;obtain ⟨h,hh⟩:∃h,ao w.c.queues[j].holds x.proc=h:=⟨_,rfl⟩;have kH:=dK w.c.queues[j] x.proc;rw [hh] at kH;rw [hL,hh] at hZ hr;by_cases hhl:h=l
 ·rw [decide_eq_true hhl] at hZ;obtain rfl:w=Z:=hZ;repeat' (first|refine af ?_ ?_|(refine aa 9 rfl ?_;first|(refine cB [] (gj w.c.queues n hF) ?_)|(refine cB [] (kL) ?_)|(refine cB [] (kH) ?_))|(refine aa 21 rfl ?_;refine sx (aq rfl rfl) ?_)|refine ae ?_|exact ah|(refine ab fun hb=>?_;first|(omega)|(exact absurd hhl.symm hb)|skip)|(exact sX (qf [(4,2)])))
 ·rw [decide_eq_false hhl,cond_false] at hZ;have hr:=hr.resolve_left hhl;obtain ⟨R,hR⟩:∃R,eG x.led ⟨n,l,h⟩=R:=⟨_,rfl⟩;rw [hR] at hZ hr;obtain ⟨R1,R2⟩:=R;obtain rfl:R2=0:=hr;obtain rfl:w.setP i { x with led:=R1 } = Z:=hZ;have kR:=Db x.led ⟨n,l,h⟩ hR;repeat' (first|refine af ?_ ?_|(refine aa 9 rfl ?_;first|(refine cB [] (gj w.c.queues n hF) ?_)|(refine cB [] (kL) ?_)|(refine cB [] (kH) ?_)|(refine cC [] (kR) ?_))|(refine aa 21 rfl ?_;refine sx (aq rfl rfl) ?_)|refine ae ?_|(refine aa 4 rfl ?_;refine bc (aA (z:={ x with led:=R1 }) rfl rfl rfl rfl hx rfl rfl rfl rfl (Nat.le_of_ble_eq_true rfl) rfl rfl) rfl rfl rfl ?_)|exact ah|(refine ab fun hb=>?_;first|(omega)|(exact absurd hb.symm hhl)|(exact absurd rfl hb)|skip)|(exact sX (qf [(4,2)])))
instance:ST prog c9 68 4 1:=⟨ElTB.mk' underlying68 (.bool false) 1 1 (by kernel_rfl) rfl rfl⟩
theorem zl (d:Nat) (x:Ex) (L:List Tm) (set:List Bool) (hL:L.length≤1000) (hset:set.length≤1000):FSpec prog 155 [x.a d,.one (.sl c7 L),.one (.sl c9 set)] [] [] (.b (sy (ce L set) x)) [] :=
 cP (fun b W=>by kernel_rfl) rfl fun w S ρ vs hS h=>by
  match vs,h with
  | [_,_,_],⟨h1,h2,h3,_⟩ =>
   obtain ⟨A,c,rfl,hr,hc⟩:=Ex.open h1;obtain ⟨A2,c2,rfl,hc2,hr2⟩:=h2;obtain ⟨A3,c3,rfl,hc3,hr3⟩:=h3;exact (zS d x A A2 A3 c c2 c3 w.heap.size L set w ⟨Nat.le_trans hc.1 hc.2,Nat.le_refl _,hr.lo hS⟩ (hr2.lo hS) hL (hr3.lo hS) hset).mono fun _ _=>jF
theorem zm (d:Nat) (x:Ex) (set:List Bool) (hset:set.length≤1000) {b:Bool} (hb:dE x set=b):FSpec prog 111 [x.a d,.one (.sl c9 set)] [] [] (.b b) []:=by
 refine aT func111 ?_;unfold dE at hb;have h8:=dQ x;obtain ⟨L,hL⟩:∃L,cJ x=L:=⟨_,rfl⟩;rw [hL] at hb h8;have kA:=iC d x hL;have kh:=zl d x L set (by omega) hset;obtain ⟨v,hv⟩:∃v,sy (ce L set) x=v:=⟨_,rfl⟩;rw [hv] at hb kh;cases hx:kf x with
 | false =>
  obtain rfl:[]=L:=by rw [←hL,oL hx]
  obtain rfl:false=b:=by rw [←hb,hx];rfl
  repeat' (first|refine af ?_ ?_|refine aa 9 rfl (cC [] (kA) ?_)|refine ae ?_|exact ah|(refine ab fun hb=>?_;first|(exfalso;simp at hb;done)|skip)|exact bB|fail)
 | true =>
  obtain ⟨_,_,_,h0,_⟩:=mt hx;rw [hL] at h0;obtain rfl:v=b:=by rw [←hb,hx];rfl
  repeat' (first|refine af ?_ ?_|(refine aa 9 rfl ?_;first|(refine cC [] (kA) ?_)|(refine cB [] (kh) ?_))|refine ae ?_|exact ah|(refine ab fun hb=>?_;first|(exfalso;omega)|skip)|exact bB|fail)
theorem AN {set:List Bool} {n:Nat} (h:set.length=n):((List.range n).map fun i=>set.getD i false)=set:=by
 apply List.ext_getElem
 ·simp [h]
 ·intro i h1 h2;simp [List.getD_eq_getElem?_getD,h2]
theorem GO (d:Nat) (x:Ex) (set:List Bool) (hset:set.length=(cJ x).length) {P:List Bool} (hP:cY x set=P):FSpec prog 166 [x.a d,.one (.sl c9 set)] [] [] (.c (.sl c9 P)) []:=by
 refine aT func166 ?_;have hmk:prog.underlying 68=some (.slice 4):=underlying68;have hib:(prog.info? 4).map (fun i=>(i.zero,i.size,i.bytes))=some (some (.bool false),1,1):=by kernel_rfl
 cases hv:kf x with
 | false =>
  have hL:=oL hv;obtain rfl:[]=P:=by rw [←hP];simp [cY,dE,hv,hL]
  repeat' (first|refine af ?_ ?_|refine aa 9 rfl (cC [] (iC d x hL) ?_)|(refine aa 20 rfl ?_;refine bh (mD (E:=c9) (y0:=false) hmk hib rfl (by decide) rfl (fun _ _=>rfl) rfl rfl rfl rfl (by first|omega|simp)) rfl rfl rfl ?_)|refine ae ?_|exact ah|(refine ab fun hb=>?_;first|(exact absurd rfl hb)|skip)|exact bB|fail)
 | true =>
  obtain ⟨hsh,_,h8,h0,_⟩:=mt hv;obtain ⟨L,hL⟩:∃L,cJ x=L:=⟨_,rfl⟩;rw [hL] at h8 h0 hset;have kA:=iC d x hL;have kh:=fun s (hs:s.length=L.length)=>zl d x L s (by omega) (by omega);cases hh:sy (ce L set) x with
  | false =>
   obtain rfl:List.replicate L.length false=P:=by rw [←hP];simp [cY,dE,hv,hL,hh]
   have k1:=kh set hset;rw [hh] at k1;repeat' (first|refine af ?_ ?_|(refine aa 9 rfl ?_;first|(refine cC [] (kA) ?_)|(refine cB [] (k1) ?_))|(refine aa 20 rfl ?_;refine bh (mD (E:=c9) (y0:=false) hmk hib rfl (by decide) rfl (fun _ _=>rfl) rfl rfl rfl rfl (by first|omega|simp)) rfl rfl rfl ?_)|refine ae ?_|exact ah|refine ab fun hb=>?_|exact bB|fail)
  | true =>
   have hp:iw x L L.length set=P:=by rw [←hP];unfold cY dE;rw [hv,hL,hh,AN hset];rfl
   have k1:=kh set hset;rw [hh] at k1;have hcp:set++(List.replicate L.length false).drop set.length=set:=by rw [List.drop_eq_nil_of_le (by simp;omega),List.append_nil]
   repeat' (first|refine af ?_ ?_|(refine aa 9 rfl ?_;first|(refine sx (s5 rfl rfl rfl (oX rfl) (by simp;omega) (by simp;omega) hcp) ?_)|(refine cC [] (kA) ?_)|(refine cB [] (k1) ?_))|(refine aa 20 rfl ?_;refine bh (mD (E:=c9) (y0:=false) hmk hib rfl (by decide) rfl (fun _ _=>rfl) rfl rfl rfl rfl (by first|omega|simp)) rfl rfl rfl ?_)|refine ae ?_|exact ah|(refine ab fun hb=>?_;first|(exfalso;omega)|skip))
   refine ak (fun y:Nat×List Bool=>y.1≤L.length∧y.2.length=L.length∧iw x L y.1 y.2=P) (fun y=>cq [2,1000] [(2,.c (.ptr 2 0)),(5,.c (.sl c7 L)),(6,.c (.own 1000)),(7,.i ((y.1:Int)-1))] [(2,.box 47 (x.d d)),(1000,.arr 4 c9 y.2)]) (fun y=>y.1) (L.length,set) ⟨Nat.le_refl _,hset,hp⟩ (by exact bw (qf [(1000,12)])) ?_;rintro ⟨k,out⟩ ⟨hk,hol,hs⟩;dsimp only at *
   rcases Nat.eq_zero_or_pos k with h0|h0
   ·subst h0;obtain rfl:out=P:=hs;repeat' (first|refine af ?_ ?_|refine ae ?_|exact ah|refine ab fun hb=>?_|exact bB|fail)
   ·obtain ⟨j,rfl⟩:∃j,k=j+1:=⟨k-1,by omega⟩;obtain ⟨z,hz⟩:∃z,(((j+1:Nat):Int)-1).toNat=z:=⟨_,rfl⟩;have hzj:z=j:=by omega
    obtain ⟨v,hgv⟩:∃v,out[(((j+1:Nat):Int)-1).toNat]? = some v:=⟨_,List.getElem?_eq_getElem (by omega)⟩;have hgj:out.getD j false=v:=by rw [hz,hzj] at hgv;simp [List.getD_eq_getElem?_getD,hgv]
    have hstep:iw x L (j+1) out=iw x L j (bif out.getD j false then out.set j (!sy (ce L (out.set j false)) x) else out):=rfl;rw [hstep,hgj] at hs;cases v with
    | false =>
     repeat' (first|refine af ?_ ?_|refine ae ?_|exact ah|refine ab fun hb=>?_)
     refine ⟨(j,out),⟨by dsimp only;omega,hol,hs⟩,by dsimp only;omega,?_⟩;exact a7
    | true =>
     obtain ⟨o1,ho1⟩:∃o1,out.set (((j+1:Nat):Int)-1).toNat false=o1:=⟨_,rfl⟩;have hl1:o1.length=L.length:=by rw [←ho1,List.length_set,hol]
     have hg1:o1[(((j+1:Nat):Int)-1).toNat]? = some false:=by rw [←ho1,List.getElem?_set_self (by omega)]
     have hs1:o1.set (((j+1:Nat):Int)-1).toNat true=out.set j true:=by rw [←ho1,List.set_set,hz,hzj]
     rw [show out.set j false=o1 by rw [←ho1,hz,hzj]] at hs;have k2:=kh o1 hl1;cases he:sy (ce L o1) x with
     | true =>
      rw [he] at hs k2;rw [←ho1] at k2 hg1;repeat' (first|refine af ?_ ?_|refine aa 9 rfl (cB [1000] (k2) ?_)|refine ae ?_|(refine aa 4 rfl ?_;refine bc (aA (z:=false) rfl rfl rfl rfl hgv rfl rfl rfl rfl (Nat.le_of_ble_eq_true rfl) rfl rfl) rfl rfl rfl ?_)|exact ah|refine ab fun hb=>?_)
      refine ⟨(j,o1),⟨by dsimp only;omega,hl1,by rw [←hs,←ho1,hz,hzj];rfl⟩,by dsimp only;omega,?_⟩;dsimp only;rw [←ho1];exact a7
     | false =>
      rw [he] at hs k2;rw [←ho1] at k2 hg1;repeat' (first|refine af ?_ ?_|refine aa 9 rfl (cB [1000] (k2) ?_)|refine ae ?_|(refine aa 4 rfl ?_;first|(refine bc (aA (z:=false) rfl rfl rfl rfl hgv rfl rfl rfl rfl (Nat.le_of_ble_eq_true rfl) rfl rfl) rfl rfl rfl ?_)|(refine bc (aA (z:=true) rfl rfl rfl rfl hg1 rfl rfl rfl rfl (Nat.le_of_ble_eq_true rfl) rfl rfl) rfl rfl rfl ?_))|exact ah|refine ab fun hb=>?_)
      refine ⟨(j,out.set j true),⟨by dsimp only;omega,by simp [hol],hs⟩,by dsimp only;omega,?_⟩;dsimp only;rw [←hs1,←ho1];exact a7
theorem mf (d:Nat) (t:List Qu) (x:Pc) {B:List Bool} (hB:bo t x.proc x.req.expr=B):FSpec prog 34 [.one (.sl eX t),x.a d] [] [] (.c (.sl c9 B)) []:=by
 refine aT func34 ?_;have h8:=dQ x.req.expr;obtain ⟨L,hL⟩:∃L,cJ x.req.expr=L:=⟨_,rfl⟩;have kA:=iC d x.req.expr hL;have hBl:B.length=L.length:=by rw [←hB];simp [bo,hL]
 have hBg:∀i (h:i<L.length),B[i]'(by omega)=(aS t L[i].name && a8 (a6 t L[i].name).res (ao (a6 t L[i].name).holds x.proc) L[i].am):=by
  intro i h;simp only [←hB,bo,hL,List.getElem_map]
 rw [hL] at h8;clear hB hL;repeat' (first|refine af ?_ ?_|refine aa 9 rfl (cC [] (kA) ?_)|refine ae ?_|exact ah|refine ab fun hb=>?_)
 refine cZ 5 1000 4 c9 rfl rfl rfl ?_;refine ak (fun i=>i≤L.length) (fun i=>cq [3,1000] [(0,.c (.sl eX t)),(3,.c (.ptr 3 0)),(5,.c (.own 1000)),(12,.c (.sl c7 L)),(13,.i L.length),(14,.i i)] [(3,.box 66 (x.d d)),(1000,.arr 4 c9 (B.take i))]) (fun i=>L.length-i) 0 (Nat.zero_le _) a7 ?_;intro i hi;have hol:(B.take i).length=i:=by simp;omega
 by_cases hlt:i<L.length
 ·have hb1:=hBg i hlt;have hst:B.take (i+1)=B.take i++[B[i]'(by omega)]:=List.take_succ_eq_append_getElem _;obtain ⟨a,ha⟩:∃a,L[i]=a:=⟨_,rfl⟩;have hga:L[i]? = some a:=by rw [List.getElem?_eq_getElem hlt,ha]
  rw [ha] at hb1;rw [hb1] at hst;by_cases hf:bR a.name 0 t<0
  ·rw [show aS t a.name=false by simp [aS];omega,Bool.false_and] at hst;have kF:=gj t a.name rfl;repeat' (first|refine af ?_ ?_|(refine aa 8 rfl ?_;refine bh (ap rfl rfl (aH rfl rfl) (aL [false] rfl rfl rfl rfl) rfl aK aK) rfl rfl rfl ?_)|refine aa 9 rfl (cB [] (kF) ?_)|refine ae ?_|exact ah|(refine ab fun hb=>?_;first|(exfalso;omega)|skip))
   refine ⟨i+1,by omega,by omega,?_⟩;rw [hst];exact bw (qf [(1000,43)])
  ·obtain ⟨j,hj,hF,hq,hx⟩:=fQ hf;rw [show aS t a.name=true by simp [aS,Int.not_lt.1 hf],Bool.true_and,show a6 t a.name=t[j] from hq] at hst;have kF:=gj t a.name hF;obtain ⟨h,hh⟩:∃h,ao t[j].holds x.proc=h:=⟨_,rfl⟩;have kH:=dK t[j] x.proc;rw [hh] at kH hst;have kC:=eL t[j].res h a.am;obtain ⟨c,hc⟩:∃c,a8 t[j].res h a.am=c:=⟨_,rfl⟩;rw [hc] at kC hst;repeat' (first|refine af ?_ ?_|(refine aa 8 rfl ?_;refine bh (ap rfl rfl (aH rfl rfl) (aL [c] rfl rfl rfl rfl) rfl aK aK) rfl rfl rfl ?_)|(refine aa 9 rfl ?_;first|(refine cB [] (kF) ?_)|(refine cB [] (kH) ?_)|(refine cB [] (kC) ?_))|refine ae ?_|exact ah|(refine ab fun hb=>?_;first|(exfalso;omega)|skip))
   refine ⟨i+1,by omega,by omega,?_⟩;rw [hst];exact bw (qf [(1000,43)])
 ·have e:B.take i=B:=List.take_of_length_le (by omega);rw [e];repeat' (first|refine af ?_ ?_|refine ae ?_|exact ah|refine ab fun hb=>?_|exact bB|fail)
end Go.Proofs.YtcgpepnbohejfaaGreatDoor
